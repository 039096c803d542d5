/- WholeFar: FarM, FarT, FarE, FarF. -/
import Derived.KernelRfl
import Derived.Test.YtpcdcemcjbeajaaGreatDoorProg
import Derived.Test.YtpcdcemcjbeajaaGreatDoorWf10
section
set_option linter.unusedVariables false
set_option linter.unusedSimpArgs false
set_option maxRecDepth 100000
namespace Go.Proofs.YtpcdcemcjbeajaaGreatDoor
open Go Go.RowKit
noncomputable def mn (n : Nat) : Nm := ⟨slotK n, slotK (Nat.div n 256)⟩
noncomputable abbrev iI (n : Nat) : S := .i .i64 (.ofNat n)
noncomputable abbrev iU (n : Nat) : S := .i .u64 (.ofNat n)
noncomputable abbrev iW (n : Nat) : S := .i .u32 (.ofNat n)
noncomputable abbrev iB (n : Nat) : S := .i .u8 (.ofNat n)
noncomputable abbrev bT : S := .b true
noncomputable abbrev bF : S := .b false
noncomputable abbrev xpn : S := .x .pn
noncomputable abbrev xsn : S := .x .sn
noncomputable abbrev tK (n : Nat) : S := .x (.tk n)
noncomputable abbrev pP (n o : Nat) : S := .p (mn n) o
noncomputable abbrev oS (n l : Nat) : S := .x (.os (mn n) l)
noncomputable abbrev rL (n len : Nat) : S := .l (mn n) 0 len 0 true
noncomputable def formC : List S := [2, 0, 0, 0, 0, 0, 0, 0, 0, 0, 0, 0, 0, 0, 0, 0, 100, 3, 0, 0, 0, 0, 0, 0, 0, 0, 0, 0, 0, 0, 0, 0, 0, 0, 0, 0, 0, 0, 0, 0, 0, 0, 0, 0, 0, 0, 0, 0, 0, 0, 1, 1, 0, 0, 0, 0, 0, 0, 0, 0, 0, 0, 0, 0, 0, 0, 0, 2, 2, 2, 6, 6, 3, 0, 0, 0, 0, 0, 2, 0, 0, 0, 0, 0, 5, 0, 0, 0, 0, 0, 4, 0, 0, 0, 0, 0, 3, 0, 0, 0, 0, 0, 11, 0, 0, 0, 0, 0, 3, 9, 0, 0, 0, 0, 0, 3, 0, 0, 0, 0, 0, 11, 0, 0, 0, 0, 0, 3, 10, 0, 0, 0, 0, 0, 3, 0, 0, 0, 0, 0, 11, 0, 0, 0, 0, 0, 3, 2, 0, 0, 0, 0, 0, 8, 0, 0, 0, 0, 0, 11, 0, 0, 0, 0, 0, 5, 2, 0, 0, 0, 0, 0, 8, 4, 0, 0, 0, 0, 1, 0, 1, 0, 0, 0, 5, 0, 0, 0, 0, 0, 11, 0, 0, 0, 0, 0, 3, 9, 0, 1, 0, 0, 0, 3, 0, 0, 0, 0, 0, 11, 0, 0, 0, 0, 0, 0, 0, 0, 0, 0, 0, 0, 0, 0, 0, 0, 0, 0, 0, 0, 101, 2, 0, 0, 0, 0, 0, 0, 0, 0, 0, 0, 0, 0, 0, 0, 0, 0, 0, 0, 0, 0, 0, 0, 0, 0, 0, 0, 0, 0, 0, 0, 0, 0, 1, 1, 2, 3, 6, 3, 0, 0, 0, 0, 0, 2, 0, 0, 0, 0, 0, 5, 0, 0, 0, 0, 0, 4, 0, 0, 0, 0, 0, 3, 0, 0, 0, 0, 0, 11, 0, 0, 0, 0, 0, 3, 9, 0, 0, 0, 0, 0, 3, 0, 0, 0, 0, 0, 11, 0, 0, 0, 0, 0, 3, 10, 0, 0, 0, 0, 0, 3, 0, 0, 0, 0, 0, 11, 0, 0, 0, 0, 0].map fun n => .i .u8 (.ofNat n)
noncomputable def decV (x0 x1 x2 x3 x4 x5 x6 x7 x8 x9 x10 x11 x12 x13 : Nm) : V := .t [.a [.l x0 0 2 0 true], .s (iI 0)]
noncomputable def decE (x0 x1 x2 x3 x4 x5 x6 x7 x8 x9 x10 x11 x12 x13 : Nm) : List (Nm × O) := [(x0, .c 64 19 2 [iB 0, iB 0, iB 0, iB 0, iB 0, iB 0, iB 0, iB 0, iB 0, iB 0, iB 0, iB 0, iB 0, iB 0, iB 0, iB 100, .l x1 0 3 0 true, iI 2, .l x2 0 6 0 true, iB 0, iB 0, iB 0, iB 0, iB 0, iB 0, iB 0, iB 0, iB 0, iB 0, iB 0, iB 0, iB 0, iB 0, iB 0, iB 101, .l x9 0 2 0 true, iI 2, .l x10 0 3 0 true]), (x1, .c 92 17 3 [iB 0, iB 0, iB 0, iB 0, iB 0, iB 0, iB 0, iB 0, iB 0, iB 0, iB 0, iB 0, iB 0, iB 0, iB 0, iB 0, .i .i64 (.negSucc 0), iB 0, iB 0, iB 0, iB 0, iB 0, iB 0, iB 0, iB 0, iB 0, iB 0, iB 0, iB 0, iB 0, iB 0, iB 0, iB 1, iI 0, iB 0, iB 0, iB 0, iB 0, iB 0, iB 0, iB 0, iB 0, iB 0, iB 0, iB 0, iB 0, iB 0, iB 0, iB 0, iB 2, iI 1]), (x2, .c 90 1 6 [.l x3 0 6 0 true, .l x4 0 3 0 true, .l x5 0 3 0 true, .l x6 0 3 0 true, .l x7 0 5 0 true, .l x8 0 3 0 true]), (x3, .c 89 3 6 [iI 3, iI 0, iI 0, iI 2, iI 0, iI 0, iI 5, iI 0, iI 0, iI 4, iI 0, iI 0, iI 3, iI 0, iI 0, iI 11, iI 0, iI 0]), (x4, .c 89 3 3 [iI 9, iI 0, iI 0, iI 3, iI 0, iI 0, iI 11, iI 0, iI 0]), (x5, .c 89 3 3 [iI 10, iI 0, iI 0, iI 3, iI 0, iI 0, iI 11, iI 0, iI 0]), (x6, .c 89 3 3 [iI 2, iI 0, iI 0, iI 8, iI 0, iI 0, iI 11, iI 0, iI 0]), (x7, .c 89 3 5 [iI 2, iI 0, iI 0, iI 8, iI 0, iI 4, iI 1, iI 1, iI 0, iI 5, iI 0, iI 0, iI 11, iI 0, iI 0]), (x8, .c 89 3 3 [iI 9, iI 1, iI 0, iI 3, iI 0, iI 0, iI 11, iI 0, iI 0]), (x9, .c 92 17 2 [iB 0, iB 0, iB 0, iB 0, iB 0, iB 0, iB 0, iB 0, iB 0, iB 0, iB 0, iB 0, iB 0, iB 0, iB 0, iB 0, .i .i64 (.negSucc 0), iB 0, iB 0, iB 0, iB 0, iB 0, iB 0, iB 0, iB 0, iB 0, iB 0, iB 0, iB 0, iB 0, iB 0, iB 0, iB 1, iI 0]), (x10, .c 90 1 3 [.l x11 0 6 0 true, .l x12 0 3 0 true, .l x13 0 3 0 true]), (x11, .c 89 3 6 [iI 3, iI 0, iI 0, iI 2, iI 0, iI 0, iI 5, iI 0, iI 0, iI 4, iI 0, iI 0, iI 3, iI 0, iI 0, iI 11, iI 0, iI 0]), (x12, .c 89 3 3 [iI 9, iI 0, iI 0, iI 3, iI 0, iI 0, iI 11, iI 0, iI 0]), (x13, .c 89 3 3 [iI 10, iI 0, iI 0, iI 3, iI 0, iI 0, iI 11, iI 0, iI 0])]
noncomputable def decK (h : Hp) (x0 : Nm) : Rs := newK x0 fun x1 => newK x1 fun x2 => newK x2 fun x3 => newK x3 fun x4 => newK x4 fun x5 => newK x5 fun x6 => newK x6 fun x7 => newK x7 fun x8 => newK x8 fun x9 => newK x9 fun x10 => newK x10 fun x11 => newK x11 fun x12 => newK x12 fun x13 => newK x13 fun x14 => .F (decV x0 x1 x2 x3 x4 x5 x6 x7 x8 x9 x10 x11 x12 x13) (setAll (decE x0 x1 x2 x3 x4 x5 x6 x7 x8 x9 x10 x11 x12 x13) h) x14
noncomputable def formO : O := .c 5 1 343 formC
noncomputable def decM (vs : List V) (h : Hp) (nx : Nm) : Rs := match vs with
  | [.s (.l n o len c r)] => onC (get8 n h) fun t rr m ks => cond (Nat.beq o 0 && (Nat.beq len 343 && (Nat.beq c 0 && (r && (Nat.beq t 5 && (Nat.beq rr 1 && (Nat.beq m 343 && beqL ks formC))))))) (decK h nx) (.bad 90)
  | _ => .bad 91
noncomputable def findEn (cs : List S) (t : List TbE) : Option (List S) := List.rec (motive := fun _ => Option (List S)) none (fun e _ r => match e with | .enc cs' bs => cond (beqL cs' cs) (some bs) r | _ => r) t
noncomputable def findDe (bs : List S) (t : List TbE) : Option (List S) := List.rec (motive := fun _ => Option (List S)) none (fun e _ r => match e with | .enc cs bs' => cond (beqL bs' bs) (some cs) r | _ => r) t
noncomputable def findDl (i l j j1 : Nat) (t : List TbE) : Option (Nat × Nat) := List.rec (motive := fun _ => Option (Nat × Nat)) none (fun e _ r => match e with | .del i' l' j' j1' e0 sz y1 y2 => cond (Nat.beq i' i) (cond (Nat.beq l' l) (cond (Nat.beq j' j) (cond (Nat.beq j1' j1) (cond (Nat.beq e0 161) (cond (Nat.beq sz 1) (some (y1, y2)) r) r) r) r) r) r | _ => r) t
noncomputable def encM (vs : List V) (h : Hp) (nx : Nm) : Rs := match vs with
  | [.a cs] => onV (findEn cs (tbOf h)) fun bs => newK nx fun nx' => .F (.t [.s (.l nx 0 bs.length 0 true), .s (iI 0)]) (set8 nx (some (.c 5 1 bs.length bs)) h) nx'
  | _ => .bad 94
noncomputable def pdecM (vs : List V) (h : Hp) (nx : Nm) : Rs := match vs with
  | [.s (.l n o len c r)] => onC (get8 n h) fun t rr m ks => cond (Nat.beq o 0 && (Nat.beq c 0 && (r && (Nat.beq t 5 && (Nat.beq rr 1 && (Nat.beq m len && lenIs ks len)))))) (onV (findDe ks (tbOf h)) fun cs => .F (.t [.a cs, .s (iI 0)]) h nx) (.bad 95)
  | _ => .bad 95
noncomputable def delM (vs : List V) (h : Hp) (nx : Nm) : Rs := match vs with
  | [.s (.x (.os n l)), .s (.x (.tk j)), .s (.x (.tk j1))] => onV (opAt n h) fun i => onV (findDl i l j j1 (tbOf h)) fun z => .F (.s (.x (.os n z.2))) (set8 n (some (.op z.1)) h) nx
  | _ => .bad 96
noncomputable def eqlM (vs : List V) (h : Hp) (nx : Nm) : Rs := match vs with
  | [.s (.l n o len c r), .s (.l n' o' len' c' r')] => onC (get8 n h) fun t rr m ks => onC (get8 n' h) fun t' rr' m' ks' => cond (Nat.beq o 0 && (Nat.beq o' 0 && (Nat.beq len len' && (lenIs ks len && beqL ks ks')))) (onV (findDe ks (tbOf h)) fun _ => .F (.s (.b true)) h nx) (.bad 97)
  | _ => .bad 97
noncomputable def mo0 (f : FuncId) : Option (List V → Hp → Nm → Rs) := none
noncomputable def moD (f : FuncId) : Option (List V → Hp → Nm → Rs) := cond (Nat.beq f 66) (some decM) none
noncomputable def moE (f : FuncId) : Option (List V → Hp → Nm → Rs) := cond (Nat.beq f 180) (some encM) (cond (Nat.beq f 135) (some eqlM) none)
noncomputable def moA (f : FuncId) : Option (List V → Hp → Nm → Rs) := cond (Nat.beq f 66) (some decM) (cond (Nat.beq f 180) (some encM) (cond (Nat.beq f 162) (some pdecM) (cond (Nat.beq f 163) (some delM) none)))
noncomputable abbrev K0 : Ih := runK Tryz.prog 318 435 mo0 300
noncomputable abbrev KD : Ih := runK Tryz.prog 318 435 moD 300
noncomputable abbrev KE : Ih := runK Tryz.prog 318 435 moE 300
noncomputable abbrev KA : Ih := runK Tryz.prog 318 435 moA 300
noncomputable def actV (kind : Nat) (at_ ref n : S) : V := .a [iI kind, at_, ref, iU 0, iB 0, iB 0, iB 0, iB 0, iB 0, iB 0, iB 0, iB 0, iB 0, iB 0, iB 0, iB 0, iB 0, iB 0, iB 0, iB 0, iI 0, iB 0, iB 0, iB 0, iB 0, iB 0, iB 0, iB 0, iB 0, iB 0, iB 0, iB 0, iB 0, iB 0, iB 0, iB 0, iB 0, .x (.str ⟨⟨[]⟩⟩), iU 0, xsn, n, iI 0, bF]
end Go.Proofs.YtpcdcemcjbeajaaGreatDoor
end
section
set_option linter.unusedVariables false
set_option linter.unusedSimpArgs false
namespace Go.Proofs.YtpcdcemcjbeajaaGreatDoor
open Go.RowKit
section
variable {k : Tk} {op : BinOp} {x y r : S} {i j : IntKind} {a b c : Int}
theorem tb_i (hx : tv k x = some (.int i a)) (hy : tv k y = some (.int i b)) (hs : binI op i a b = some (.i j c)) (hr : tv k r = some (.int j c)) : TbOk k (.bin op x y r) :=
  ⟨i, a, i, b, _, hx, hy, hr, fun P t w => by obtain ⟨v, h1, h2⟩ := binI_ok (P := P) (t := t) (σ := ⟨fun _ => none, k⟩) hs; cases (show v = .int j c from h1); exact h2 w⟩
theorem tb_sh {i' : IntKind} (hx : tv k x = some (.int i a)) (hy : tv k y = some (.int i' b)) (hs : shI op i a b = some (.i j c)) (hr : tv k r = some (.int j c)) : TbOk k (.bin op x y r) :=
  ⟨i, a, i', b, _, hx, hy, hr, fun P t w => by obtain ⟨v, h1, h2⟩ := shI_ok (P := P) (t := t) (σ := ⟨fun _ => none, k⟩) hs; cases (show v = .int j c from h1); exact h2 w⟩
theorem tb_t (hc : isCmp op = true) (hx : tv k x = some (.int i a)) (hy : tv k y = some (.int i b)) (hp : cmpP op a b) : TbOk k (.bin op x y (.b true)) :=
  ⟨i, a, i, b, _, hx, hy, rfl, fun P t w => by rw [bin_cmpP hc, decide_eq_true hp]⟩
theorem tb_f (hc : isCmp op = true) (hx : tv k x = some (.int i a)) (hy : tv k y = some (.int i b)) (hp : ¬ cmpP op a b) : TbOk k (.bin op x y (.b false)) :=
  ⟨i, a, i, b, _, hx, hy, rfl, fun P t w => by rw [bin_cmpP hc, decide_eq_false hp]⟩
theorem tb_add (hx : tv k x = some (.int i a)) (hy : tv k y = some (.int i b)) (hw : i.wrap (a + b) = c) (hr : tv k r = some (.int i c)) : TbOk k (.bin .add x y r) :=
  ⟨i, a, i, b, _, hx, hy, hr, fun P t w => by rw [bin_add, hw]⟩
theorem tb_sub (hx : tv k x = some (.int i a)) (hy : tv k y = some (.int i b)) (hw : i.wrap (a - b) = c) (hr : tv k r = some (.int i c)) : TbOk k (.bin .sub x y r) :=
  ⟨i, a, i, b, _, hx, hy, hr, fun P t w => by rw [bin_sub, hw]⟩
theorem tb_rem (hx : tv k x = some (.int i a)) (hy : tv k y = some (.int i b)) (hb : b ≠ 0) (hw : a.tmod b = c) (hr : tv k r = some (.int i c)) : TbOk k (.bin .rem x y r) :=
  ⟨i, a, i, b, _, hx, hy, hr, fun P t w => by rw [bin_rem P t i a b hb, hw]⟩
theorem tb_cv {n : Int} (hx : tv k x = some (.int i n)) (hr : tv k r = some (.int j (j.wrap n))) : TbOk k (.cv j x r) := ⟨i, n, hx, hr⟩
end
theorem allP_of {l : List Prop} (h : ∀ p ∈ l, p) : AllP l := by
  induction l with
  | nil => trivial
  | cons p l ih => exact ⟨h p (by simp), ih fun q hq => h q (by simp [hq])⟩
theorem allP_tb {k : Tk} {l : List TbE} (h : ∀ e ∈ l, TbOk k e) : AllP (l.map (TbOk k)) := allP_of fun p hp => by
  obtain ⟨e, he, rfl⟩ := List.mem_map.1 hp
  exact h e he
theorem wrap_u64 {n : Int} (h : 0 ≤ n ∧ n < 18446744073709551616) : IntKind.u64.wrap n = n := by
  simp [IntKind.wrap, IntKind.bits, IntKind.signed]; omega
theorem wrap_u8 {n : Int} (h : 0 ≤ n ∧ n < 256) : IntKind.u8.wrap n = n := by
  simp [IntKind.wrap, IntKind.bits, IntKind.signed]; omega
theorem wrap_u8m (n : Int) : IntKind.u8.wrap n = n % 256 := by
  simp [IntKind.wrap, IntKind.bits, IntKind.signed]
theorem wrap_u64m (n : Int) : IntKind.u64.wrap n = n % 18446744073709551616 := by
  simp [IntKind.wrap, IntKind.bits, IntKind.signed]
theorem wrap_i64m {n : Int} (h : -9223372036854775808 ≤ n ∧ n < 9223372036854775808) : IntKind.i64.wrap (n % 18446744073709551616) = n := by
  simp [IntKind.wrap, IntKind.bits, IntKind.signed]
  omega
end Go.Proofs.YtpcdcemcjbeajaaGreatDoor
end
section
set_option linter.unusedVariables false
set_option linter.unusedSimpArgs false
set_option maxRecDepth 100000
namespace Go.Proofs.YtpcdcemcjbeajaaGreatDoor
open Go Go.RowKit
def wordX (seq call un : Nat) : Nat → Nat | 0 => seq | 1 => call | _ => un
def partX (X t i : Nat) : Value := match t with | 0 => .int .u64 ((X / 256 ^ i : Nat) : Int) | 1 => .int .u8 ((X / 256 ^ i % 256 : Nat) : Int) | 2 => .int .u64 ((X / 256 ^ i % 256 : Nat) : Int) | 3 => .int .u64 ((X / 256 ^ i % 256 * 256 ^ i : Nat) : Int) | _ => .int .u64 ((X % 256 ^ (i + 1) : Nat) : Int)
def valE (fr to seq call : Nat) (n : Int) (un : Nat) (k : Nat) : Value := match k with
  | 1 => .int .i64 (fr : Int) | 2 => .int .i64 (to : Int) | 3 => .int .u64 (seq : Int) | 4 => .int .u64 (call : Int) | 5 => .int .i64 n | 6 => .int .u64 (un : Int) | 7 => .int .u64 (fr : Int) | 8 => .int .u64 (to : Int) | 9 => .int .u8 (fr : Int) | 10 => .int .u8 (to : Int)
  | k => partX (wordX seq call un ((k - 20) / 100)) ((k - 20) % 100 / 10) ((k - 20) % 10)
theorem part_one (X t i : Nat) : (partX X t i).cells = #[partX X t i] ∧ (partX X t i).oneCell' = true := by unfold partX; split <;> exact ⟨rfl, rfl⟩
def tkE (fr to seq call : Nat) (n : Int) (un : Nat) : Tk := ⟨valE fr to seq call n un, fun k => by unfold valE; split <;> first | exact ⟨rfl, rfl⟩ | exact part_one _ _ _, fun _ => .m [] 0⟩
noncomputable def tX (x t i : Nat) : S := tK (20 + 100 * x + 10 * t + i)
noncomputable def wX (x : Nat) : S := tK (match x with | 0 => 3 | 1 => 4 | _ => 6)
noncomputable def encX (x i : Nat) : List TbE := [.bin .shr (wX x) (iI (8 * i)) (tX x 0 i), .cv .u8 (tX x 0 i) (tX x 1 i)]
noncomputable def decX (x i : Nat) : List TbE := [.cv .u64 (tX x 1 i) (tX x 2 i), .bin .shl (tX x 2 i) (iI (8 * i)) (tX x 3 i), .bin .or (cond (Nat.beq i 0) (iU 0) (tX x 4 (i - 1))) (tX x 3 i) (cond (Nat.beq i 7) (wX x) (tX x 4 i))]
def xis : List (Nat × Nat) := [(0, 0), (0, 1), (0, 2), (0, 3), (0, 4), (0, 5), (0, 6), (0, 7), (1, 0), (1, 1), (1, 2), (1, 3), (1, 4), (1, 5), (1, 6), (1, 7), (2, 0), (2, 1), (2, 2), (2, 3), (2, 4), (2, 5), (2, 6), (2, 7)]
noncomputable def small1 (a w c : Nat) : List TbE := [.bin .geq (tK a) (iI 0) bT, .bin .lss (tK a) (iI 4) bT, .cv .u64 (tK a) (tK w), .bin .shr (tK w) (iI 8) (iU 0), .bin .shr (tK w) (iI 0) (tK w), .cv .u8 (tK w) (tK c)]
noncomputable def small2 (a w c : Nat) : List TbE := [.cv .u64 (tK c) (tK w), .bin .shl (tK w) (iI 0) (tK w), .bin .or (iU 0) (tK w) (tK w), .cv .i64 (tK w) (tK a)]
noncomputable def tEnc : List TbE := small1 1 7 9 ++ small1 2 8 10 ++ [.bin .eql (tK 1) (tK 2) bF, .cv .u64 (tK 5) (tK 6)] ++ xis.flatMap fun p => encX p.1 p.2
noncomputable def by8 (x : Nat) : List S := [tX x 1 0, tX x 1 1, tX x 1 2, tX x 1 3, tX x 1 4, tX x 1 5, tX x 1 6, tX x 1 7]
noncomputable def z5 : List S := [iB 0, iB 0, iB 0, iB 0, iB 0]
noncomputable def z8 : List S := [iB 0, iB 0, iB 0, iB 0, iB 0, iB 0, iB 0, iB 0]
noncomputable def ipS : List S := [iB 0, iB 0, iB 0, iB 0, iB 0, iB 0, iB 0, iB 0, iB 0, iB 0, iB 0, iB 1, iB 0, iB 0, iB 0, iB 1]
noncomputable def cs1 : List S := [iI 1, tK 1, tK 2, tK 3, tK 4] ++ ipS ++ [iI 0, tK 5, iI 0, xsn]
noncomputable def cs2 : List S := [iI 2, tK 1, tK 2, tK 3, tK 4] ++ (z8 ++ z8) ++ [iI 0, tK 5, iI 0, xsn]
noncomputable def bs1 : List S := [iB 1, tK 9, tK 10] ++ z5 ++ by8 0 ++ by8 1 ++ ipS ++ z8 ++ by8 2 ++ z8
noncomputable def bs2 : List S := [iB 2, tK 9, tK 10] ++ z5 ++ by8 0 ++ by8 1 ++ z8 ++ by8 2
noncomputable def tDec (cs bs : List S) : List TbE := .enc cs bs :: (small2 1 7 9 ++ small2 2 8 10 ++ [.cv .i64 (tK 6) (tK 5)] ++ xis.flatMap fun p => decX p.1 p.2)
noncomputable def eD (cs bs : List S) (n : Nat) : List (Nm × O) := [(mn 0, .tb (tDec cs bs)), (mn 1, .c 5 1 n bs)]
theorem run_enc1 : chkG (.t [.s (rL 193 64), .s (iI 0)]) [(mn 0, .tb tEnc), (mn 193, .c 5 1 64 bs1)] (K0 (.F 180 [.a cs1] (setAll [(mn 0, .tb tEnc)] (emp8 none)) (mn 1))) = true := by decide +kernel
theorem run_enc2 : chkG (.t [.s (rL 104 40), .s (iI 0)]) [(mn 0, .tb tEnc), (mn 104, .c 5 1 40 bs2)] (K0 (.F 180 [.a cs2] (setAll [(mn 0, .tb tEnc)] (emp8 none)) (mn 1))) = true := by decide +kernel
theorem run_dec1 : chkG (.t [.a cs1, .s (iI 0)]) (eD cs1 bs1 64) (KE (.F 162 [.s (rL 1 64)] (setAll (eD cs1 bs1 64) (emp8 none)) (mn 2))) = true := by decide +kernel
theorem run_dec2 : chkG (.t [.a cs2, .s (iI 0)]) (eD cs2 bs2 40) (KE (.F 162 [.s (rL 1 40)] (setAll (eD cs2 bs2 40) (emp8 none)) (mn 2))) = true := by decide +kernel
end Go.Proofs.YtpcdcemcjbeajaaGreatDoor
end
section
set_option linter.unusedVariables false
set_option linter.unusedSimpArgs false
set_option maxRecDepth 100000
namespace Go.Proofs.YtpcdcemcjbeajaaGreatDoor
open Go Go.RowKit
theorem or_part (X i : Nat) : Nat.lor (X % 256 ^ i) (X / 256 ^ i % 256 * 256 ^ i) = X % 256 ^ (i + 1) := by
  have e : (256 : Nat) ^ i = 2 ^ (8 * i) := by rw [show (256 : Nat) = 2 ^ 8 from rfl, ← Nat.pow_mul]
  have h : X % 256 ^ i < 256 ^ i := Nat.mod_lt _ (Nat.pow_pos (by decide))
  have key : 256 ^ i * (X / 256 ^ i % 256) ||| X % 256 ^ i = 256 ^ i * (X / 256 ^ i % 256) + X % 256 ^ i := by
    rw [e] at h ⊢
    exact (Nat.two_pow_add_eq_or_of_lt h _).symm
  show X % 256 ^ i ||| X / 256 ^ i % 256 * 256 ^ i = _
  rw [Nat.or_comm, Nat.mul_comm (X / 256 ^ i % 256), key, Nat.mod_pow_succ (b := 256), Nat.add_comm]
theorem nat_u64 {m : Nat} (h : m < 18446744073709551616) : (0 : Int) ≤ (m : Int) ∧ (m : Int) < 18446744073709551616 := by omega
section
variable {fr to seq call un : Nat} {n : Int}
theorem tv_X {x t i : Nat} (hx : x < 3) (ht : t < 5) (hi : i < 8) : tv (tkE fr to seq call n un) (tX x t i) = some (partX (wordX seq call un x) t i) := by
  show some (valE fr to seq call n un (20 + 100 * x + 10 * t + i)) = _
  have e1 : (20 + 100 * x + 10 * t + i - 20) / 100 = x := by omega
  have e2 : (20 + 100 * x + 10 * t + i - 20) % 100 / 10 = t := by omega
  have e3 : (20 + 100 * x + 10 * t + i - 20) % 10 = i := by omega
  unfold valE
  split <;> first | omega | rw [e1, e2, e3]
theorem tv_W {x : Nat} (hx : x < 3) : tv (tkE fr to seq call n un) (wX x) = some (.int .u64 (wordX seq call un x : Int)) := by
  rcases x with _ | _ | _ | x
  · rfl
  · rfl
  · rfl
  · omega
theorem word_u64 {m : Nat} (h : m < 18446744073709551616) : word .u64 (.ofNat m) = m := Nat.mod_eq_of_lt h
theorem pow256 {i : Nat} (hi : i < 8) : pow2 (cond (Nat.ble (8 * i) IntKind.u64.bits) (8 * i) IntKind.u64.bits) = 256 ^ i ∧ 256 ^ i * 256 ≤ 18446744073709551616 := by
  rcases i with _ | _ | _ | _ | _ | _ | _ | _ | i
  all_goals first | omega | exact ⟨by decide +kernel, by decide⟩
theorem encX_ok {x i : Nat} (hx : x < 3) (hi : i < 8) : ∀ e ∈ encX x i, TbOk (tkE fr to seq call n un) e := by
  intro e he
  have h1 := tv_W (fr := fr) (to := to) (seq := seq) (call := call) (n := n) (un := un) hx
  have h2 := tv_X (fr := fr) (to := to) (seq := seq) (call := call) (n := n) (un := un) hx (show 0 < 5 by decide) hi
  have h3 := tv_X (fr := fr) (to := to) (seq := seq) (call := call) (n := n) (un := un) hx (show 1 < 5 by decide) hi
  rcases List.mem_cons.1 he with rfl | he
  · refine tb_sh h1 (rfl : tv (tkE fr to seq call n un) (iI (8 * i)) = some (.int .i64 (.ofNat (8 * i)))) ?_ h2
    show some (S.i .u64 (.ofNat (Nat.div (wordX seq call un x) (pow2 (cond (Nat.ble (8 * i) IntKind.u64.bits) (8 * i) IntKind.u64.bits))))) = _
    rw [(pow256 hi).1]; rfl
  · rcases List.mem_cons.1 he with rfl | he
    · refine tb_cv h2 (h3.trans ?_)
      rw [wrap_u8m]
      show some (Value.int .u8 ((_ % 256 : Nat) : Int)) = _
      rw [Int.natCast_emod]; rfl
    · cases he
theorem decX_ok (hw : ∀ x, x < 3 → wordX seq call un x < 18446744073709551616) {x i : Nat} (hx : x < 3) (hi : i < 8) : ∀ e ∈ decX x i, TbOk (tkE fr to seq call n un) e := by
  intro e he
  have X0 := hw x hx
  have h1 := tv_W (fr := fr) (to := to) (seq := seq) (call := call) (n := n) (un := un) hx
  have hX := fun (t : Nat) (ht : t < 5) => tv_X (fr := fr) (to := to) (seq := seq) (call := call) (n := n) (un := un) hx ht hi
  have hb : wordX seq call un x / 256 ^ i % 256 < 256 := Nat.mod_lt _ (by decide)
  have hp := (pow256 hi).2
  have hs : wordX seq call un x / 256 ^ i % 256 * 256 ^ i < 18446744073709551616 := by
    have : wordX seq call un x / 256 ^ i % 256 * 256 ^ i < 256 * 256 ^ i := Nat.mul_lt_mul_of_pos_right hb (Nat.pow_pos (by decide))
    rw [Nat.mul_comm 256] at this
    omega
  rcases List.mem_cons.1 he with rfl | he
  · refine tb_cv (hX 1 (by decide)) ((hX 2 (by decide)).trans ?_)
    rw [wrap_u64 (by omega)]; rfl
  · rcases List.mem_cons.1 he with rfl | he
    · refine tb_sh (hX 2 (by decide)) (rfl : tv (tkE fr to seq call n un) (iI (8 * i)) = some (.int .i64 (.ofNat (8 * i)))) ?_ (hX 3 (by decide))
      show some (S.i .u64 (wrN .u64 (Nat.mul (wordX seq call un x / 256 ^ i % 256) (pow2 (cond (Nat.ble (8 * i) IntKind.u64.bits) (8 * i) IntKind.u64.bits))))) = _
      rw [(pow256 hi).1, wrN_eq]
      exact congrArg (fun z => some (S.i .u64 z)) (wrap_u64 (nat_u64 hs))
    · rcases List.mem_cons.1 he with rfl | he
      · have hlow : wordX seq call un x % 256 ^ i < 18446744073709551616 := Nat.lt_of_le_of_lt (Nat.mod_le _ _) X0
        have key : binI .or .u64 ((wordX seq call un x % 256 ^ i : Nat) : Int) ((wordX seq call un x / 256 ^ i % 256 * 256 ^ i : Nat) : Int) = some (.i .u64 ((wordX seq call un x % 256 ^ (i + 1) : Nat) : Int)) := by
          show some (S.i .u64 (wrN .u64 (Nat.lor (word .u64 (.ofNat _)) (word .u64 (.ofNat _))))) = _
          rw [word_u64 hlow, word_u64 hs, or_part, wrN_eq, wrap_u64 (nat_u64 (Nat.lt_of_le_of_lt (Nat.mod_le _ _) X0))]
        refine tb_i (a := ((wordX seq call un x % 256 ^ i : Nat) : Int)) ?_ (hX 3 (by decide)) key ?_
        · cases i with
          | zero => rw [Nat.pow_zero, Nat.mod_one]; rfl
          | succ j => exact tv_X hx (show 4 < 5 by decide) (by omega)
        · by_cases e7 : i = 7
          · subst e7
            have : wordX seq call un x % 256 ^ (7 + 1) = wordX seq call un x := Nat.mod_eq_of_lt X0
            rw [this]; exact h1
          · rw [beq_ne e7]; exact hX 4 (by decide)
      · cases he
theorem small_wrap {m : Nat} (h : m < 4) : IntKind.u64.wrap (m : Int) = m ∧ IntKind.u8.wrap (m : Int) = m ∧ IntKind.i64.wrap (m : Int) = m := ⟨wrap_u64 (by omega), wrap_u8 (by omega), wrap_i64 (by omega)⟩
theorem small1_ok {m a w c : Nat} (h : m < 4) (ha : tv (tkE fr to seq call n un) (tK a) = some (.int .i64 (m : Int))) (hw : tv (tkE fr to seq call n un) (tK w) = some (.int .u64 (m : Int))) (hc : tv (tkE fr to seq call n un) (tK c) = some (.int .u8 (m : Int))) : ∀ e ∈ small1 a w c, TbOk (tkE fr to seq call n un) e := by
  intro e he
  obtain ⟨w1, w2, w3⟩ := small_wrap h
  simp only [small1, List.mem_cons, List.not_mem_nil, or_false] at he
  rcases he with rfl | rfl | rfl | rfl | rfl | rfl
  · exact tb_t rfl ha rfl (by show (m : Int) ≥ _; exact Int.natCast_nonneg _)
  · exact tb_t rfl ha rfl (by show (m : Int) < ((4 : Nat) : Int); omega)
  · exact tb_cv ha (by rw [w1]; exact hw)
  · refine tb_sh hw (rfl : tv (tkE fr to seq call n un) (iI 8) = some (.int .i64 (.ofNat 8))) (j := .u64) (c := .ofNat 0) ?_ rfl
    show some (S.i .u64 (.ofNat (Nat.div m (pow2 (cond (Nat.ble 8 IntKind.u64.bits) 8 IntKind.u64.bits))))) = _
    have : Nat.div m (pow2 (cond (Nat.ble 8 IntKind.u64.bits) 8 IntKind.u64.bits)) = 0 := by
      show m / 256 = 0
      exact Nat.div_eq_of_lt (by omega)
    rw [this]
  · refine tb_sh hw (rfl : tv (tkE fr to seq call n un) (iI 0) = some (.int .i64 (.ofNat 0))) (j := .u64) (c := (m : Int)) ?_ hw
    show some (S.i .u64 (.ofNat (Nat.div m (pow2 (cond (Nat.ble 0 IntKind.u64.bits) 0 IntKind.u64.bits))))) = _
    have : Nat.div m (pow2 (cond (Nat.ble 0 IntKind.u64.bits) 0 IntKind.u64.bits)) = m := by show m / 1 = m; exact Nat.div_one m
    rw [this]; rfl
  · exact tb_cv hw (by rw [w2]; exact hc)
theorem small2_ok {m a w c : Nat} (h : m < 4) (ha : tv (tkE fr to seq call n un) (tK a) = some (.int .i64 (m : Int))) (hw : tv (tkE fr to seq call n un) (tK w) = some (.int .u64 (m : Int))) (hc : tv (tkE fr to seq call n un) (tK c) = some (.int .u8 (m : Int))) : ∀ e ∈ small2 a w c, TbOk (tkE fr to seq call n un) e := by
  intro e he
  obtain ⟨w1, w2, w3⟩ := small_wrap h
  simp only [small2, List.mem_cons, List.not_mem_nil, or_false] at he
  rcases he with rfl | rfl | rfl | rfl
  · exact tb_cv hc (by rw [w1]; exact hw)
  · refine tb_sh hw (rfl : tv (tkE fr to seq call n un) (iI 0) = some (.int .i64 (.ofNat 0))) (j := .u64) (c := (m : Int)) ?_ hw
    show some (S.i .u64 (wrN .u64 (Nat.mul m (pow2 (cond (Nat.ble 0 IntKind.u64.bits) 0 IntKind.u64.bits))))) = _
    have : Nat.mul m (pow2 (cond (Nat.ble 0 IntKind.u64.bits) 0 IntKind.u64.bits)) = m := by show m * 1 = m; exact Nat.mul_one m
    rw [this, wrN_eq, w1]
  · refine tb_i (rfl : tv (tkE fr to seq call n un) (iU 0) = some (.int .u64 (.ofNat 0))) hw (c := (m : Int)) (j := .u64) ?_ hw
    show some (S.i .u64 (wrN .u64 (Nat.lor (word .u64 (.ofNat 0)) (word .u64 (.ofNat m))))) = _
    rw [word_u64 (by omega), word_u64 (by omega), show Nat.lor 0 m = m from Nat.zero_or m, wrN_eq, w1]
  · exact tb_cv hw (by rw [w3]; exact ha)
theorem xis_lt : ∀ p ∈ xis, p.1 < 3 ∧ p.2 < 8 := by decide
theorem tEnc_ok (h1 : fr < 4) (h2 : to < 4) (h3 : fr ≠ to) (h4 : (un : Int) = n % 18446744073709551616) : ∀ e ∈ tEnc, TbOk (tkE fr to seq call n un) e := by
  intro e he
  unfold tEnc at he
  rcases List.mem_append.1 he with he | he
  · rcases List.mem_append.1 he with he | he
    · rcases List.mem_append.1 he with he | he
      · exact small1_ok h1 rfl rfl rfl e he
      · exact small1_ok h2 rfl rfl rfl e he
    · simp only [List.mem_cons, List.not_mem_nil, or_false] at he
      rcases he with rfl | rfl
      · exact tb_f (i := .i64) (a := (fr : Int)) (b := (to : Int)) rfl rfl rfl (by show ¬ ((fr : Int) = to); omega)
      · exact tb_cv (n := n) rfl (by rw [wrap_u64m, ← h4]; rfl)
  · obtain ⟨p, hp, he⟩ := List.mem_flatMap.1 he
    exact encX_ok (xis_lt p hp).1 (xis_lt p hp).2 e he
theorem tDec_ok {cs bs : List S} (h1 : fr < 4) (h2 : to < 4) (h4 : (un : Int) = n % 18446744073709551616) (h5 : -9223372036854775808 ≤ n ∧ n < 9223372036854775808) (hw : ∀ x, x < 3 → wordX seq call un x < 18446744073709551616) (hr : TbOk (tkE fr to seq call n un) (.enc cs bs)) : ∀ e ∈ tDec cs bs, TbOk (tkE fr to seq call n un) e := by
  intro e he
  unfold tDec at he
  rcases List.mem_cons.1 he with rfl | he
  · exact hr
  rcases List.mem_append.1 he with he | he
  · rcases List.mem_append.1 he with he | he
    · rcases List.mem_append.1 he with he | he
      · exact small2_ok h1 rfl rfl rfl e he
      · exact small2_ok h2 rfl rfl rfl e he
    · simp only [List.mem_cons, List.not_mem_nil, or_false] at he
      subst he
      exact tb_cv (n := (un : Int)) rfl (by rw [h4, wrap_i64m h5]; rfl)
  · obtain ⟨p, hp, he⟩ := List.mem_flatMap.1 he
    exact decX_ok hw (xis_lt p hp).1 (xis_lt p hp).2 e he
end
end Go.Proofs.YtpcdcemcjbeajaaGreatDoor
end
