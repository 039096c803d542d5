/-
  SYM, the operations: one rule for each kind of operation. Values that go into the environment are brought to a constructor by 'withV', so that looking one up reduces by itself.
-/
import Derived.Test.YtgmlbaffghogaaaGreatDoorSym
set_option linter.unusedVariables false
set_option linter.unusedSimpArgs false
namespace Go.Proofs.YtgmlbaffghogaaaGreatDoor
open Go.RowKit

/-- A block of cells that may be written. -/
abbrev cel (t : TypeId) (l : List Value) : Obj := .cells l.toArray t (0, 0)
class HasE (b : Nat) (o : outParam Obj) (L : List Ent) : Prop where
  out : (b, o) ∈ L
instance HasE.head (b : Nat) (o : Obj) (L : List Ent) : HasE b o ((b, o) :: L) := ⟨List.mem_cons_self⟩
instance HasE.tail (b : Nat) (o : Obj) (e : Ent) (L : List Ent) [h : HasE b o L] : HasE b o (e :: L) := ⟨List.mem_cons_of_mem _ h.out⟩
instance HasE.right (b : Nat) (o : Obj) (L1 L : List Ent) [h : HasE b o L] : HasE b o (L1 ++ L) := ⟨List.mem_append_right _ h.out⟩
class PutE (b : Nat) (f : List Value → List Value) (tt : outParam TypeId) (l : outParam (List Value)) (L : List Ent) (L' : outParam (List Ent)) : Prop where
  out : ∃ L1 L2, L = L1 ++ (b, cel tt l) :: L2 ∧ L' = L1 ++ (b, cel tt (f l)) :: L2
instance PutE.head (b : Nat) (f : List Value → List Value) (tt : TypeId) (l : List Value) (L : List Ent) : PutE b f tt l ((b, cel tt l) :: L) ((b, cel tt (f l)) :: L) := ⟨[], L, rfl, rfl⟩
instance PutE.tail (b : Nat) (f : List Value → List Value) (tt : TypeId) (l : List Value) (e : Ent) (L L' : List Ent) [h : PutE b f tt l L L'] : PutE b f tt l (e :: L) (e :: L') :=
  ⟨let ⟨L1, L2, h1, h2⟩ := h.out; ⟨e :: L1, L2, by rw [h1]; rfl, by rw [h2]; rfl⟩⟩

instance PutE.right (b : Nat) (f : List Value → List Value) (tt : TypeId) (l : List Value) (L0 L L' : List Ent) [h : PutE b f tt l L L'] : PutE b f tt l (L0 ++ L) (L0 ++ L') :=
  ⟨let ⟨L1, L2, h1, h2⟩ := h.out; ⟨L0 ++ L1, L2, by rw [h1]; simp, by rw [h2]; simp⟩⟩

/-! ### Facts on types -/
def isAggD : TypeDesc → Bool
  | .struct _ | .array _ _ => true
  | _ => false
structure Scalar (P : Program) (t : TypeId) : Prop where
  agg : ∀ w, (isAgg t).run P w = .ok false w
  size : ∀ w, (sizeOf t).run P w = .ok 1 w
structure AggT (P : Program) (t : TypeId) (n : Nat) : Prop where
  agg : ∀ w, (isAgg t).run P w = .ok true w
  size : ∀ w, (sizeOf t).run P w = .ok n w
section
variable {P : Program} {t e : TypeId}
theorem size_of_info {n : Nat} (h : (P.info? t).map (·.size) = some n) (w : World) : (sizeOf t).run P w = .ok n w := by
  cases hi : P.info? t with
  | none => simp [hi] at h
  | some i => simp [sizeOf, typeInfo, hi] at h ⊢; exact h
theorem Scalar.mk' {d : TypeDesc} (hu : P.underlying t = some d) (hd : isAggD d = false) (hs : (P.info? t).map (·.size) = some 1) : Scalar P t :=
  ⟨fun w => by unfold isAgg; rw [Sem.run_bind, run_underlying hu w]; cases d <;> simp_all [isAggD], size_of_info hs⟩
theorem AggT.mk' {d : TypeDesc} {n : Nat} (hu : P.underlying t = some d) (hd : isAggD d = true) (hs : (P.info? t).map (·.size) = some n) : AggT P t n :=
  ⟨fun w => by unfold isAgg; rw [Sem.run_bind, run_underlying hu w]; cases d <;> simp_all [isAggD], size_of_info hs⟩
def ZeroT (P : Program) (t : TypeId) (l : List Value) : Prop := ∃ v : Value, v.cells = l.toArray ∧ ∀ w, (zeroValue t).run P w = .ok v w
theorem ZeroT.mk' {v : Value} {l : List Value} (h : (P.info? t).map (·.zero) = some (some v)) (hl : v.cells = l.toArray) : ZeroT P t l :=
  ⟨v, hl, fun w => by
    cases hi : P.info? t with
    | none => simp [hi] at h
    | some i => simp only [hi, Option.map_some, Option.some.injEq] at h; simp [zeroValue, typeInfo, hi, h]⟩
/-- A slice type, its elements of so many cells and bytes. -/
structure SlT (P : Program) (t : TypeId) (e : TypeId) (sz : Nat) : Prop where
  und : P.underlying t = some (.slice e)
  size : ∀ w, (sizeOf e).run P w = .ok sz w
def FldT (P : Program) (s : TypeId) (i : Nat) (off : Nat) : Prop := ∀ (a : Addr) w, (Instr.fieldAt s (.pointer (some a)) i).run P w = .ok (.pointer (some (a.add off))) w
theorem FldT.mk' {fs : Array Field} {i : Nat} {f : Field} {n off : Nat} (hu : P.underlying t = some (.struct fs)) (hf : fs[i]? = some f) (ho : f.offset = off) (hn : (P.info? f.type).map (·.size) = some n) (h0 : (n == 0) = false) : FldT P t i off := by
  subst ho
  intro a w
  have h0' : n ≠ 0 := by simpa using h0
  have hsz := size_of_info (P := P) hn w
  simp [Instr.fieldAt, Sem.run_bind, run_underlying hu, hf, Instr.sureAddr, fieldPlace, hsz, h0']
end

/-! ### Reading -/
def CellsAt (w : World) (b off : Nat) (l : List Value) : Prop := ∀ j v, l[j]? = some v → w.cell? ⟨b, off + j, none⟩ = some v
theorem CellsAt.sub {w : World} {b off : Nat} {l : List Value} (h : CellsAt w b off l) (d n : Nat) : CellsAt w b (off + d) ((l.drop d).take n) := by
  intro j v hv
  have : l[d + j]? = some v := by
    rw [List.getElem?_take] at hv
    split at hv
    · rwa [List.getElem?_drop] at hv
    · cases hv
  rw [Nat.add_assoc]; exact h _ _ this
theorem cell_entry {w : World} {b : Nat} {cs : Array Value} {t : TypeId} {fr : Nat × Nat} (h : w.heap[b]? = some (.cells cs t fr)) (off : Nat) : w.cell? ⟨b, off, none⟩ = cs[off]? := by
  simp [World.cell?, h]
theorem St.cellO {w0 w : World} {S : List Nat} {L : List Ent} (h : St w0 S w L) {b : Nat} {t : TypeId} {l : List Value} {fr : Nat × Nat} (hm : (b, Obj.cells l.toArray t fr) ∈ L) (off : Nat) : w.cell? ⟨b, off, none⟩ = l[off]? := by
  rw [cell_entry (h.own _ hm)]; simp
theorem St.cellsO {w0 w : World} {S : List Nat} {L : List Ent} (h : St w0 S w L) {b : Nat} {t : TypeId} {l : List Value} {fr : Nat × Nat} (hm : (b, Obj.cells l.toArray t fr) ∈ L) (off : Nat) : CellsAt w b off (l.drop off) := by
  intro j v hv
  rw [h.cellO hm]; rwa [List.getElem?_drop] at hv
theorem St.cellI {w0 w : World} {S : List Nat} {L : List Ent} (h : St w0 S w L) {a : Addr} {v : Value} (hc : w0.cell? a = some v) (hS : a.block ∉ S) : w.cell? a = some v := by
  rw [World.cell?_of_block (w := w0) (h.keep a.block (World.block_lt_of_cell? _ _ hc) hS)]; exact hc
theorem St.cellsI {w0 w : World} {S : List Nat} {L : List Ent} (h : St w0 S w L) {b off : Nat} {l : List Value} (hc : CellsAt w0 b off l) (hS : b ∉ S) : CellsAt w b off l :=
  fun j v hv => h.cellI (hc j v hv) hS
theorem addr_add (b o n : Nat) : (⟨b, o, none⟩ : Addr).add n = ⟨b, o + n, none⟩ := by unfold Addr.add; split <;> simp_all
theorem run_loadA {P : Program} {t : TypeId} {n : Nat} {w : World} {b off : Nat} {l : List Value} (ha : AggT P t n) (hl : l.length = n) (hc : CellsAt w b off l) : (loadVar t ⟨b, off, none⟩).run P w = .ok (.agg l.toArray) w := by
  have h2 : (loadCells ⟨b, off, none⟩ l.length).run P w = .ok l.toArray w := run_loadCells_list (P := P) w ⟨b, off, none⟩ l (fun j v hv => by rw [addr_add]; exact hc j v hv)
  subst hl
  simp [loadVar, Sem.run_bind, ha.agg w, ha.size w, h2]
theorem run_loadS {P : Program} {t : TypeId} {w : World} {a : Addr} {v : Value} (ha : Scalar P t) (hc : w.cell? a = some v) : (loadVar t a).run P w = .ok v w := by
  simp [loadVar, Sem.run_bind, ha.agg w, run_load, hc]

/-! ### The rules -/
section
variable {c : Cx} {Qp : Po} {K : Ko} {ρ : Env} {ds : Ds} {L : List Ent} {ol rest : List Oper}
variable {d : Option Nat} {ty : TypeId} {pos : String} {af : Array Edge} {g : Option (Nat × Bool)}
abbrev Wt (c : Cx) (ol : List Oper) (ρ : Env) (o : Oper) : Prop := wantE c.n ol ρ o = true
theorem RL.move {x : Operand} (hw : wantE c.n ol ρ ⟨d, .move x, ty, pos, af, g⟩ = true) (h : withV (evE c.n ρ x) fun v => RL c ol rest K Qp (updO ρ d v) ds L) : RL c ol (⟨d, .move x, ty, pos, af, g⟩ :: rest) K Qp ρ ds L :=
  RL.pure hw rfl (fun w => rfl) (by rw [withV_eq] at h; exact h)
theorem RL.assign {x : Operand} (hw : wantE c.n ol ρ ⟨d, .assign x, ty, pos, af, g⟩ = true) (h : withV (evE c.n ρ x) fun v => RL c ol rest K Qp (updO ρ d v) ds L) : RL c ol (⟨d, .assign x, ty, pos, af, g⟩ :: rest) K Qp ρ ds L :=
  RL.pure hw rfl (fun w => rfl) (by rw [withV_eq] at h; exact h)
theorem RL.pick {x y z : Operand} {b : Bool} (hw : wantE c.n ol ρ ⟨d, .pick x y z, ty, pos, af, g⟩ = true) (hb : evE c.n ρ x = .bool b) (h : withV (if b then evE c.n ρ y else evE c.n ρ z) fun v => RL c ol rest K Qp (updO ρ d v) ds L) : RL c ol (⟨d, .pick x y z, ty, pos, af, g⟩ :: rest) K Qp ρ ds L :=
  RL.pure (v := if b then evE c.n ρ y else evE c.n ρ z) hw rfl (fun w => by simp [execOp, hb, asBool]) (by rw [withV_eq] at h; exact h)
theorem RL.pick_t {x y z : Operand} (hw : wantE c.n ol ρ ⟨d, .pick x y z, ty, pos, af, g⟩ = true) (hb : evE c.n ρ x = .bool true) (h : withV (evE c.n ρ y) fun v => RL c ol rest K Qp (updO ρ d v) ds L) : RL c ol (⟨d, .pick x y z, ty, pos, af, g⟩ :: rest) K Qp ρ ds L := RL.pick hw hb h
theorem RL.pick_f {x y z : Operand} (hw : wantE c.n ol ρ ⟨d, .pick x y z, ty, pos, af, g⟩ = true) (hb : evE c.n ρ x = .bool false) (h : withV (evE c.n ρ z) fun v => RL c ol rest K Qp (updO ρ d v) ds L) : RL c ol (⟨d, .pick x y z, ty, pos, af, g⟩ :: rest) K Qp ρ ds L := RL.pick hw hb h
theorem run_bin_int (P : Program) (n : Nat) (ρ : Env) (op : BinOp) {t t' : TypeId} {x y : Operand} {k : IntKind} {a b : Int} (hx : evE n ρ x = .int k a) (hy : evE n ρ y = .int k b) (w : World) :
    (execOp (evE n ρ) ⟨d, .binOp op t x y t', ty, pos, af, g⟩).run P w = ((binOp op t (.int k a) (.int k b)).run P w).andThen fun v w' => .ok (.value v) w' := by
  have hg : ∀ (op : BinOp), (eqGuard op t x y (.int k a) (.int k b)).run P w = .ok () w := fun op => by cases op <;> rfl
  simp [execOp, hx, hy, Sem.run_bind, hg]
variable {t t' : TypeId} {x y : Operand} {k : IntKind} {a b : Int}
theorem RL.binI {op : BinOp} {v : Value} (hw : wantE c.n ol ρ ⟨d, .binOp op t x y t', ty, pos, af, g⟩ = true) (hx : evE c.n ρ x = .int k a) (hy : evE c.n ρ y = .int k b) (hv : ∀ w, (binOp op t (.int k a) (.int k b)).run c.P w = .ok v w)
    (h : RL c ol rest K Qp (updO ρ d v) ds L) : RL c ol (⟨d, .binOp op t x y t', ty, pos, af, g⟩ :: rest) K Qp ρ ds L :=
  RL.pure hw rfl (fun w => by rw [run_bin_int c.P c.n ρ op hx hy w, hv w]; rfl) h
theorem bin_add (P : Program) (t : TypeId) (k : IntKind) (a b : Int) (w : World) : (binOp .add t (.int k a) (.int k b)).run P w = .ok (.int k (k.wrap (a + b))) w := by simp [binOp, Op.intArith]
theorem bin_sub (P : Program) (t : TypeId) (k : IntKind) (a b : Int) (w : World) : (binOp .sub t (.int k a) (.int k b)).run P w = .ok (.int k (k.wrap (a - b))) w := by simp [binOp, Op.intArith]
theorem bin_mul (P : Program) (t : TypeId) (k : IntKind) (a b : Int) (w : World) : (binOp .mul t (.int k a) (.int k b)).run P w = .ok (.int k (k.wrap (a * b))) w := by simp [binOp, Op.intArith]
theorem bin_cmp (P : Program) (t : TypeId) (k : IntKind) (a b : Int) (w : World) :
    (binOp .eql t (.int k a) (.int k b)).run P w = .ok (.bool (decide (a = b))) w ∧ (binOp .neq t (.int k a) (.int k b)).run P w = .ok (.bool (decide (a ≠ b))) w ∧ (binOp .lss t (.int k a) (.int k b)).run P w = .ok (.bool (decide (a < b))) w ∧
    (binOp .leq t (.int k a) (.int k b)).run P w = .ok (.bool (decide (a ≤ b))) w ∧ (binOp .gtr t (.int k a) (.int k b)).run P w = .ok (.bool (decide (a > b))) w ∧ (binOp .geq t (.int k a) (.int k b)).run P w = .ok (.bool (decide (a ≥ b))) w := by
  refine ⟨?_, ?_, ?_, ?_, ?_, ?_⟩ <;> simp [binOp, Op.intCmp]
  · by_cases h : a = b <;> simp [h]
  · by_cases h : a = b <;> simp [h]
theorem bin_rem (P : Program) (t : TypeId) (k : IntKind) (a b : Int) (hb : b ≠ 0) (w : World) : (binOp .rem t (.int k a) (.int k b)).run P w = .ok (.int k (a.tmod b)) w := by simp [binOp, Op.intDiv, hb]
theorem wrap_i64 {n : Int} (h : -9223372036854775808 ≤ n ∧ n ≤ 9223372036854775807) : IntKind.i64.wrap n = n := IntWalk.i64_in _ (by simpa using h)
/-- A sum of the kind int that stays in its bounds. -/
theorem RL.add {a b : Int} (hw : wantE c.n ol ρ ⟨d, .binOp .add t x y t', ty, pos, af, g⟩ = true) (hx : evE c.n ρ x = .int .i64 a) (hy : evE c.n ρ y = .int .i64 b) (hb : -9223372036854775808 ≤ a + b ∧ a + b ≤ 9223372036854775807) (h : RL c ol rest K Qp (updO ρ d (.int .i64 (a + b))) ds L) :
    RL c ol (⟨d, .binOp .add t x y t', ty, pos, af, g⟩ :: rest) K Qp ρ ds L := RL.binI hw hx hy (fun w => by rw [bin_add, wrap_i64 hb]) h
theorem RL.sub {a b : Int} (hw : wantE c.n ol ρ ⟨d, .binOp .sub t x y t', ty, pos, af, g⟩ = true) (hx : evE c.n ρ x = .int .i64 a) (hy : evE c.n ρ y = .int .i64 b) (hb : -9223372036854775808 ≤ a - b ∧ a - b ≤ 9223372036854775807) (h : RL c ol rest K Qp (updO ρ d (.int .i64 (a - b))) ds L) :
    RL c ol (⟨d, .binOp .sub t x y t', ty, pos, af, g⟩ :: rest) K Qp ρ ds L := RL.binI hw hx hy (fun w => by rw [bin_sub, wrap_i64 hb]) h
theorem RL.mul {a b : Int} (hw : wantE c.n ol ρ ⟨d, .binOp .mul t x y t', ty, pos, af, g⟩ = true) (hx : evE c.n ρ x = .int .i64 a) (hy : evE c.n ρ y = .int .i64 b) (hb : -9223372036854775808 ≤ a * b ∧ a * b ≤ 9223372036854775807) (h : RL c ol rest K Qp (updO ρ d (.int .i64 (a * b))) ds L) :
    RL c ol (⟨d, .binOp .mul t x y t', ty, pos, af, g⟩ :: rest) K Qp ρ ds L := RL.binI hw hx hy (fun w => by rw [bin_mul, wrap_i64 hb]) h
theorem RL.addW (hw : wantE c.n ol ρ ⟨d, .binOp .add t x y t', ty, pos, af, g⟩ = true) (hx : evE c.n ρ x = .int k a) (hy : evE c.n ρ y = .int k b) (h : RL c ol rest K Qp (updO ρ d (.int k (k.wrap (a + b)))) ds L) :
    RL c ol (⟨d, .binOp .add t x y t', ty, pos, af, g⟩ :: rest) K Qp ρ ds L := RL.binI hw hx hy (fun w => bin_add ..) h
theorem RL.subW (hw : wantE c.n ol ρ ⟨d, .binOp .sub t x y t', ty, pos, af, g⟩ = true) (hx : evE c.n ρ x = .int k a) (hy : evE c.n ρ y = .int k b) (h : RL c ol rest K Qp (updO ρ d (.int k (k.wrap (a - b)))) ds L) :
    RL c ol (⟨d, .binOp .sub t x y t', ty, pos, af, g⟩ :: rest) K Qp ρ ds L := RL.binI hw hx hy (fun w => bin_sub ..) h
theorem RL.rem (hw : wantE c.n ol ρ ⟨d, .binOp .rem t x y t', ty, pos, af, g⟩ = true) (hx : evE c.n ρ x = .int k a) (hy : evE c.n ρ y = .int k b) (hb : b ≠ 0) (h : RL c ol rest K Qp (updO ρ d (.int k (a.tmod b))) ds L) :
    RL c ol (⟨d, .binOp .rem t x y t', ty, pos, af, g⟩ :: rest) K Qp ρ ds L := RL.binI hw hx hy (fun w => bin_rem _ _ _ _ _ hb _) h
def cmpP : BinOp → Int → Int → Prop
  | .eql, a, b => a = b
  | .neq, a, b => a ≠ b
  | .lss, a, b => a < b
  | .leq, a, b => a ≤ b
  | .gtr, a, b => a > b
  | .geq, a, b => a ≥ b
  | _, _, _ => False
def isCmp : BinOp → Bool
  | .eql | .neq | .lss | .leq | .gtr | .geq => true
  | _ => false
instance (op : BinOp) (a b : Int) : Decidable (cmpP op a b) := by cases op <;> unfold cmpP <;> infer_instance
theorem bin_cmpP {op : BinOp} (hc : isCmp op = true) (P : Program) (t : TypeId) (k : IntKind) (a b : Int) (w : World) : (binOp op t (.int k a) (.int k b)).run P w = .ok (.bool (decide (cmpP op a b))) w := by
  obtain ⟨h1, h2, h3, h4, h5, h6⟩ := bin_cmp P t k a b w
  cases op <;> first | (cases hc; done) | (simp only [cmpP]; first | exact h1 | exact h2 | exact h3 | exact h4 | exact h5 | exact h6)
/-- A comparison of numbers whose outcome is known; one that parts; one that stays open. -/
theorem RL.cmp_t {op : BinOp} (hw : wantE c.n ol ρ ⟨d, .binOp op t x y t', ty, pos, af, g⟩ = true) (hc : isCmp op = true) (hx : evE c.n ρ x = .int k a) (hy : evE c.n ρ y = .int k b) (hp : cmpP op a b) (h : RL c ol rest K Qp (updO ρ d (.bool true)) ds L) :
    RL c ol (⟨d, .binOp op t x y t', ty, pos, af, g⟩ :: rest) K Qp ρ ds L := RL.binI hw hx hy (fun w => by rw [bin_cmpP hc, decide_eq_true hp]) h
theorem RL.cmp_f {op : BinOp} (hw : wantE c.n ol ρ ⟨d, .binOp op t x y t', ty, pos, af, g⟩ = true) (hc : isCmp op = true) (hx : evE c.n ρ x = .int k a) (hy : evE c.n ρ y = .int k b) (hp : ¬ cmpP op a b) (h : RL c ol rest K Qp (updO ρ d (.bool false)) ds L) :
    RL c ol (⟨d, .binOp op t x y t', ty, pos, af, g⟩ :: rest) K Qp ρ ds L := RL.binI hw hx hy (fun w => by rw [bin_cmpP hc, decide_eq_false hp]) h
theorem RL.cmp_s {op : BinOp} (hw : wantE c.n ol ρ ⟨d, .binOp op t x y t', ty, pos, af, g⟩ = true) (hc : isCmp op = true) (hx : evE c.n ρ x = .int k a) (hy : evE c.n ρ y = .int k b) (h1 : cmpP op a b → RL c ol rest K Qp (updO ρ d (.bool true)) ds L) (h2 : ¬ cmpP op a b → RL c ol rest K Qp (updO ρ d (.bool false)) ds L) :
    RL c ol (⟨d, .binOp op t x y t', ty, pos, af, g⟩ :: rest) K Qp ρ ds L := by
  by_cases hp : cmpP op a b
  · exact RL.cmp_t hw hc hx hy hp (h1 hp)
  · exact RL.cmp_f hw hc hx hy hp (h2 hp)
theorem RL.cmp_d {op : BinOp} (hw : wantE c.n ol ρ ⟨d, .binOp op t x y t', ty, pos, af, g⟩ = true) (hc : isCmp op = true) (hx : evE c.n ρ x = .int k a) (hy : evE c.n ρ y = .int k b) (h : RL c ol rest K Qp (updO ρ d (.bool (decide (cmpP op a b)))) ds L) :
    RL c ol (⟨d, .binOp op t x y t', ty, pos, af, g⟩ :: rest) K Qp ρ ds L := RL.binI hw hx hy (fun w => bin_cmpP hc ..) h
theorem RL.not {b : Bool} (hw : wantE c.n ol ρ ⟨d, .unOp .not t x, ty, pos, af, g⟩ = true) (hx : evE c.n ρ x = .bool b) (h : RL c ol rest K Qp (updO ρ d (.bool (!b))) ds L) : RL c ol (⟨d, .unOp .not t x, ty, pos, af, g⟩ :: rest) K Qp ρ ds L :=
  RL.pure hw rfl (fun w => by simp [execOp, hx, Op.unary]) h
theorem RL.negW (hw : wantE c.n ol ρ ⟨d, .unOp .neg t x, ty, pos, af, g⟩ = true) (hx : evE c.n ρ x = .int k a) (h : RL c ol rest K Qp (updO ρ d (.int k (k.wrap (0 - a)))) ds L) : RL c ol (⟨d, .unOp .neg t x, ty, pos, af, g⟩ :: rest) K Qp ρ ds L :=
  RL.pure hw rfl (fun w => by simp [execOp, hx, Op.unary, Op.intArith]) h
theorem RL.nilCheck {ad : Addr} (hw : wantE c.n ol ρ ⟨d, .nilCheck x, ty, pos, af, g⟩ = true) (hx : evE c.n ρ x = .pointer (some ad)) (h : RL c ol rest K Qp (updO ρ d (.pointer (some ad))) ds L) : RL c ol (⟨d, .nilCheck x, ty, pos, af, g⟩ :: rest) K Qp ρ ds L :=
  RL.pure hw rfl (fun w => by simp [execOp, hx]) h
theorem RL.fieldAddr {s i off bb o : Nat} (hw : wantE c.n ol ρ ⟨d, .fieldAddr s x i, ty, pos, af, g⟩ = true) (hF : FldT c.P s i off) (hx : evE c.n ρ x = .pointer (some ⟨bb, o, none⟩)) (h : RL c ol rest K Qp (updO ρ d (.pointer (some ⟨bb, o + off, none⟩))) ds L) :
    RL c ol (⟨d, .fieldAddr s x i, ty, pos, af, g⟩ :: rest) K Qp ρ ds L :=
  RL.pure hw rfl (fun w => by simp only [execOp, hx]; rw [Sem.run_bind, hF]; simp [addr_add]) h
theorem RL.indexAddr {e sz n cp j bb o : Nat} {A : Option Addr} {i : Int} (hw : wantE c.n ol ρ ⟨d, .indexAddr t x y, ty, pos, af, g⟩ = true) (hT : SlT c.P t e sz) (hx : evE c.n ρ x = .slice A n cp) (hy : evE c.n ρ y = .int k i) (hA : A = some ⟨bb, o, none⟩) (hj : i = (j : Int)) (hn : j < n)
    (h : RL c ol rest K Qp (updO ρ d (.pointer (some ⟨bb, o + j * sz, none⟩))) ds L) : RL c ol (⟨d, .indexAddr t x y, ty, pos, af, g⟩ :: rest) K Qp ρ ds L :=
  RL.pure hw rfl (fun w => by
    subst hA hj
    simp [execOp, hx, hy, Instr.indexAt, asIntOf, Sem.run_bind, run_underlying hT.und, hT.size, hn, addr_add]) h
theorem RL.len {e sz n cp : Nat} {A : Option Addr} (hw : wantE c.n ol ρ ⟨d, .call ⟨.builtin .len, #[x], #[t]⟩, ty, pos, af, g⟩ = true) (hT : SlT c.P t e sz) (hx : evE c.n ρ x = .slice A n cp) (h : RL c ol rest K Qp (updO ρ d (.int .i64 (n : Int))) ds L) :
    RL c ol (⟨d, .call ⟨.builtin .len, #[x], #[t]⟩, ty, pos, af, g⟩ :: rest) K Qp ρ ds L :=
  RL.pure hw rfl (fun w => by simp [execOp, resolve, invoke, builtin, Builtin.len_, hx, Sem.run_bind, run_underlying hT.und, goInt]) h
theorem RL.extract {vs : Array Value} {v : Value} {i : Nat} (hw : wantE c.n ol ρ ⟨d, .extract x i, ty, pos, af, g⟩ = true) (hx : evE c.n ρ x = .tuple vs) (hv : vs[i]? = some v) (h : withV v fun v => RL c ol rest K Qp (updO ρ d v) ds L) : RL c ol (⟨d, .extract x i, ty, pos, af, g⟩ :: rest) K Qp ρ ds L :=
  RL.pure (v := v) hw rfl (fun w => by simp [execOp, hx, Instr.extract, hv]) (by rw [withV_eq] at h; exact h)
theorem RL.makeFunc {f : Fn} {fi ca : Array Operand} {va : List Value} (hw : wantE c.n ol ρ ⟨d, .makeFunc f fi ca, ty, pos, af, g⟩ = true) (hf : fi = #[]) (hc : argsE c.n ρ ca = va) (h : RL c ol rest K Qp (updO ρ d (.func f #[] va.toArray)) ds L) : RL c ol (⟨d, .makeFunc f fi ca, ty, pos, af, g⟩ :: rest) K Qp ρ ds L :=
  RL.pure hw rfl (fun w => by subst hf hc; simp [execOp, Instr.makeFunc, argsE, ← Array.toList_map]) h
theorem RL.conv {kd : IntKind} (hw : wantE c.n ol ρ ⟨d, .convert t t' x, ty, pos, af, g⟩ = true) (hs : c.P.underlying t = some (.int k)) (hd : c.P.underlying t' = some (.int kd)) (hx : evE c.n ρ x = .int k a) (h : RL c ol rest K Qp (updO ρ d (.int kd (kd.wrap a))) ds L) :
    RL c ol (⟨d, .convert t t' x, ty, pos, af, g⟩ :: rest) K Qp ρ ds L :=
  RL.pure hw rfl (fun w => by simp [execOp, hx, convert, Sem.run_bind, run_underlying hs, run_underlying hd, Conv.intToInt]) h
/-! loads -/
theorem RL.loadG {v : Value} {ad : Addr} (hw : wantE c.n ol ρ ⟨d, .load t x, ty, pos, af, g⟩ = true) (hx : evE c.n ρ x = .pointer (some ad)) (hl : ∀ w, St c.w0 c.S w L → (loadVar t ad).run c.P w = .ok v w) (h : RL c ol rest K Qp (updO ρ d v) ds L) :
    RL c ol (⟨d, .load t x, ty, pos, af, g⟩ :: rest) K Qp ρ ds L :=
  RL.read hw rfl (fun w hst => by simp [execOp, hx, Instr.loadAt, Instr.sureAddr, Sem.run_bind, hl w hst]) h
theorem RL.loadO {bb off tt : Nat} {l : List Value} {fr : Nat × Nat} {v : Value} (hw : wantE c.n ol ρ ⟨d, .load t x, ty, pos, af, g⟩ = true) (hT : Scalar c.P t) (hx : evE c.n ρ x = .pointer (some ⟨bb, off, none⟩)) [hm : HasE bb (.cells l.toArray tt fr) L] (hv : l[off]? = some v)
    (h : withV v fun v => RL c ol rest K Qp (updO ρ d v) ds L) : RL c ol (⟨d, .load t x, ty, pos, af, g⟩ :: rest) K Qp ρ ds L :=
  RL.loadG hw hx (fun w hst => run_loadS hT (by rw [hst.cellO hm.out, hv])) (by rw [withV_eq] at h; exact h)
theorem RL.loadI {bb off : Nat} {v : Value} (hw : wantE c.n ol ρ ⟨d, .load t x, ty, pos, af, g⟩ = true) (hT : Scalar c.P t) (hx : evE c.n ρ x = .pointer (some ⟨bb, off, none⟩)) (hv : c.w0.cell? ⟨bb, off, none⟩ = some v) (hS : bb ∉ c.S)
    (h : withV v fun v => RL c ol rest K Qp (updO ρ d v) ds L) : RL c ol (⟨d, .load t x, ty, pos, af, g⟩ :: rest) K Qp ρ ds L :=
  RL.loadG hw hx (fun w hst => run_loadS hT (hst.cellI hv hS)) (by rw [withV_eq] at h; exact h)
theorem RL.loadOA {bb off tt n : Nat} {l l' : List Value} {fr : Nat × Nat} (hw : wantE c.n ol ρ ⟨d, .load t x, ty, pos, af, g⟩ = true) (hT : AggT c.P t n) (hx : evE c.n ρ x = .pointer (some ⟨bb, off, none⟩)) [hm : HasE bb (.cells l.toArray tt fr) L] (hv : (l.drop off).take n = l') (hl : l'.length = n)
    (h : RL c ol rest K Qp (updO ρ d (.agg l'.toArray)) ds L) : RL c ol (⟨d, .load t x, ty, pos, af, g⟩ :: rest) K Qp ρ ds L :=
  RL.loadG hw hx (fun w hst => run_loadA hT hl (by have := (hst.cellsO hm.out off).sub 0 n; simpa [hv] using this)) h
theorem RL.loadIA {bb off n : Nat} {l' : List Value} (hw : wantE c.n ol ρ ⟨d, .load t x, ty, pos, af, g⟩ = true) (hT : AggT c.P t n) (hx : evE c.n ρ x = .pointer (some ⟨bb, off, none⟩)) (hv : CellsAt c.w0 bb off l') (hS : bb ∉ c.S) (hl : l'.length = n)
    (h : RL c ol rest K Qp (updO ρ d (.agg l'.toArray)) ds L) : RL c ol (⟨d, .load t x, ty, pos, af, g⟩ :: rest) K Qp ρ ds L :=
  RL.loadG hw hx (fun w hst => run_loadA hT hl (hst.cellsI hv hS)) h
/-! new blocks -/
theorem RL.newG {v : Value} {l : List Value} {op : Op} (hd : notDefer op = true) (hq : c.q = false) (hw : wantE c.n ol ρ ⟨d, op, ty, pos, af, g⟩ = true) (hr : ∀ w, (execOp (evE c.n ρ) ⟨d, op, ty, pos, af, g⟩).run c.P w = .ok (.value (.pointer (some ⟨w.heap.size, 0, none⟩))) (w.alloc (cel t l)))
    (h : ∀ bb, c.w0.heap.size ≤ bb → RL c ol rest K Qp (updO ρ d (.pointer (some ⟨bb, 0, none⟩))) ds ((bb, cel t l) :: L)) : RL c ol (⟨d, op, ty, pos, af, g⟩ :: rest) K Qp ρ ds L :=
  RL.step hq hw hd fun w hst => ⟨_, _, _, .inl (hr w), hst.alloc _, h _ hst.size⟩
theorem RL.alloc {l : List Value} (hq : c.q = false) (hw : wantE c.n ol ρ ⟨d, .alloc t, ty, pos, af, g⟩ = true) (hz : ZeroT c.P t l) (h : ∀ bb, c.w0.heap.size ≤ bb → RL c ol rest K Qp (updO ρ d (.pointer (some ⟨bb, 0, none⟩))) ds ((bb, cel t l) :: L)) :
    RL c ol (⟨d, .alloc t, ty, pos, af, g⟩ :: rest) K Qp ρ ds L := by
  obtain ⟨v, hv, hz⟩ := hz
  refine RL.newG (v := v) rfl hq hw (fun w => ?_) h
  simp [execOp, Instr.alloc, Sem.run_bind, hz, newVar, newRow, hv]
theorem RL.boxG {v : Value} {l : List Value} (hq : c.q = false) (hw : wantE c.n ol ρ ⟨d, .box t x, ty, pos, af, g⟩ = true) (hx : evE c.n ρ x = v) (hv : v.cells = l.toArray) (h : ∀ bb, c.w0.heap.size ≤ bb → RL c ol rest K Qp (updO ρ d (.pointer (some ⟨bb, 0, none⟩))) ds ((bb, cel t l) :: L)) :
    RL c ol (⟨d, .box t x, ty, pos, af, g⟩ :: rest) K Qp ρ ds L := by
  refine RL.newG (v := v) rfl hq hw (fun w => ?_) h
  simp [execOp, Instr.box, Sem.run_bind, newVar, newRow, hx, hv]
theorem RL.boxI (hq : c.q = false) (hw : wantE c.n ol ρ ⟨d, .box t x, ty, pos, af, g⟩ = true) (hx : evE c.n ρ x = .int k a) (h : ∀ bb, c.w0.heap.size ≤ bb → RL c ol rest K Qp (updO ρ d (.pointer (some ⟨bb, 0, none⟩))) ds ((bb, cel t [.int k a]) :: L)) : RL c ol (⟨d, .box t x, ty, pos, af, g⟩ :: rest) K Qp ρ ds L := RL.boxG hq hw hx rfl h
theorem RL.boxB {v : Bool} (hq : c.q = false) (hw : wantE c.n ol ρ ⟨d, .box t x, ty, pos, af, g⟩ = true) (hx : evE c.n ρ x = .bool v) (h : ∀ bb, c.w0.heap.size ≤ bb → RL c ol rest K Qp (updO ρ d (.pointer (some ⟨bb, 0, none⟩))) ds ((bb, cel t [.bool v]) :: L)) : RL c ol (⟨d, .box t x, ty, pos, af, g⟩ :: rest) K Qp ρ ds L := RL.boxG hq hw hx rfl h
theorem RL.boxS {A : Option Addr} {m n : Nat} (hq : c.q = false) (hw : wantE c.n ol ρ ⟨d, .box t x, ty, pos, af, g⟩ = true) (hx : evE c.n ρ x = .slice A m n) (h : ∀ bb, c.w0.heap.size ≤ bb → RL c ol rest K Qp (updO ρ d (.pointer (some ⟨bb, 0, none⟩))) ds ((bb, cel t [.slice A m n]) :: L)) : RL c ol (⟨d, .box t x, ty, pos, af, g⟩ :: rest) K Qp ρ ds L := RL.boxG hq hw hx rfl h
theorem RL.boxP {A : Option Addr} (hq : c.q = false) (hw : wantE c.n ol ρ ⟨d, .box t x, ty, pos, af, g⟩ = true) (hx : evE c.n ρ x = .pointer A) (h : ∀ bb, c.w0.heap.size ≤ bb → RL c ol rest K Qp (updO ρ d (.pointer (some ⟨bb, 0, none⟩))) ds ((bb, cel t [.pointer A]) :: L)) : RL c ol (⟨d, .box t x, ty, pos, af, g⟩ :: rest) K Qp ρ ds L := RL.boxG hq hw hx rfl h
theorem RL.boxF {f : Fn} {u v : Array Value} (hq : c.q = false) (hw : wantE c.n ol ρ ⟨d, .box t x, ty, pos, af, g⟩ = true) (hx : evE c.n ρ x = .func f u v) (h : ∀ bb, c.w0.heap.size ≤ bb → RL c ol rest K Qp (updO ρ d (.pointer (some ⟨bb, 0, none⟩))) ds ((bb, cel t [.func f u v]) :: L)) : RL c ol (⟨d, .box t x, ty, pos, af, g⟩ :: rest) K Qp ρ ds L := RL.boxG hq hw hx rfl h
theorem RL.boxA {l : List Value} (hq : c.q = false) (hw : wantE c.n ol ρ ⟨d, .box t x, ty, pos, af, g⟩ = true) (hx : evE c.n ρ x = .agg l.toArray) (h : ∀ bb, c.w0.heap.size ≤ bb → RL c ol rest K Qp (updO ρ d (.pointer (some ⟨bb, 0, none⟩))) ds ((bb, cel t l) :: L)) : RL c ol (⟨d, .box t x, ty, pos, af, g⟩ :: rest) K Qp ρ ds L := RL.boxG hq hw hx rfl h
/-! calls -/
/-- The contract of a callee to which a part Lp of the list is handed. -/
theorem RL.fn {f : FuncId} {vals : List Value} {Lp Lr : List Ent} {R : Value → List Ent → Prop} {cal : Operand} {xs : Array Operand} {ts : Array TypeId} (hq : c.q = false) (hw : wantE c.n ol ρ ⟨d, .call ⟨.value cal, xs, ts⟩, ty, pos, af, g⟩ = true)
    (hf : evE c.n ρ cal = .func (.func f) #[] #[]) (he : ∀ args w, (callFunc f args).run c.P w = .ok (.enter f args) w) (hL : L.Perm (Lp ++ Lr)) (hc : ∀ w, St c.w0 c.S w (Lp ++ Lr) → Ctr c.P f vals w Lp R) (ha : argsE c.n ρ xs = vals)
    (h : ∀ v L', R v L' → withV v fun v => RL c ol rest K Qp (updO ρ d v) ds (L' ++ Lr)) : RL c ol (⟨d, .call ⟨.value cal, xs, ts⟩, ty, pos, af, g⟩ :: rest) K Qp ρ ds L := by
  refine RL.enter (f := f) (args := vals.toArray) hq hw rfl (fun w => ?_) (fun w hst => ?_)
  · subst ha
    simp [execOp, resolve, Deferred.ofValue, hf, invoke, Sem.run_bind, he, argsE, ← Array.toList_map]
  · have hst' := hst.perm hL.symm
    refine CallsIn.mono (hc w hst') ?_
    rintro e w' ⟨v, L', rfl, h2, h3⟩
    refine ⟨L' ++ Lr, hst'.comp h2, ?_⟩
    have := h v L' h3
    rw [withV_eq] at this
    exact this
theorem RL.fn0 {f : FuncId} {vals : List Value} {R : Value → List Ent → Prop} {cal : Operand} {xs : Array Operand} {ts : Array TypeId} (hq : c.q = false) (hw : wantE c.n ol ρ ⟨d, .call ⟨.value cal, xs, ts⟩, ty, pos, af, g⟩ = true)
    (hf : evE c.n ρ cal = .func (.func f) #[] #[]) (he : ∀ args w, (callFunc f args).run c.P w = .ok (.enter f args) w) (hc : ∀ w, St c.w0 c.S w L → Ctr c.P f vals w [] R) (ha : argsE c.n ρ xs = vals)
    (h : ∀ v L', R v L' → withV v fun v => RL c ol rest K Qp (updO ρ d v) ds (L' ++ L)) : RL c ol (⟨d, .call ⟨.value cal, xs, ts⟩, ty, pos, af, g⟩ :: rest) K Qp ρ ds L :=
  RL.fn (Lp := []) (Lr := L) hq hw hf he (List.Perm.refl _) hc ha h
/-- A callee that hands back a known value and changes nothing; it may stand in a region that draws. -/
theorem RL.fnQ {f : FuncId} {vals : List Value} {v : Value} {cal : Operand} {xs : Array Operand} {ts : Array TypeId} (hw : wantE c.n ol ρ ⟨d, .call ⟨.value cal, xs, ts⟩, ty, pos, af, g⟩ = true)
    (hf : evE c.n ρ cal = .func (.func f) #[] #[]) (he : ∀ args w, (callFunc f args).run c.P w = .ok (.enter f args) w) (hc : ∀ w, St c.w0 c.S w L → Ctr c.P f vals w [] fun v' _ => v' = v) (ha : argsE c.n ρ xs = vals)
    (h : withV v fun v => RL c ol rest K Qp (updO ρ d v) ds L) : RL c ol (⟨d, .call ⟨.value cal, xs, ts⟩, ty, pos, af, g⟩ :: rest) K Qp ρ ds L := by
  rw [withV_eq] at h
  have hrun : ∀ w, (execOp (evE c.n ρ) ⟨d, .call ⟨.value cal, xs, ts⟩, ty, pos, af, g⟩).run c.P w = .ok (.enter f vals.toArray) w := fun w => by
    subst ha
    simp [execOp, resolve, Deferred.ofValue, hf, invoke, Sem.run_bind, he, argsE, ← Array.toList_map]
  cases hq : c.q with
  | false =>
    refine RL.enter (f := f) (args := vals.toArray) hq hw rfl hrun (fun w hst => ?_)
    refine CallsIn.mono (hc w hst) ?_
    rintro e w' ⟨v', L', rfl, h2, rfl⟩
    exact ⟨L, (St.comp (Lp := []) (Lr := L) hst h2).sub (List.sublist_append_right _ _), h⟩
  | true =>
    rw [RL_t hq] at h ⊢
    simp only [wpQuiet]
    rw [want_act, hw, if_pos rfl]
    refine ⟨v, fun w hst => ?_, ?_⟩
    · unfold Oper.quietAt
      rw [act_eval, hrun w]
      refine ⟨rfl, ?_⟩
      have h1 : Calls c.P f vals.toArray w _ := callsIn_wide.1 (hc w hst)
      refine h1.mono ?_
      rintro e w' ⟨v', L', rfl, h2, rfl⟩
      exact ⟨rfl, (St.comp (Lp := []) (Lr := L) hst h2).sub (List.sublist_append_right _ _)⟩
    · rw [act_put]; exact h
/-! stores -/
theorem store_cells {P : Program} {w0 : World} {S : List Nat} {L1 L2 : List Ent} {bb off tt : Nat} : ∀ (us : List Value) (i : Nat) (l : List Value) (w : World), (∀ u ∈ us, u.oneCell' = true) → St w0 S w (L1 ++ (bb, cel tt l) :: L2) → off + i + us.length ≤ l.length →
    ∃ w', (storeCells ⟨bb, off, none⟩ us i).run P w = .ok () w' ∧ St w0 S w' (L1 ++ (bb, cel tt (l.take (off + i) ++ us ++ l.drop (off + i + us.length))) :: L2) := by
  intro us
  induction us with
  | nil => intro i l w _ hst hle; exact ⟨w, rfl, by simpa using hst⟩
  | cons u us ih =>
    intro i l w h1 hst hle
    simp only [List.length_cons] at hle
    have hcell : w.cell? ⟨bb, off + i, none⟩ = some (l[off + i]'(by omega)) := by
      rw [hst.cellO (by simp : (bb, Obj.cells l.toArray tt (0, 0)) ∈ L1 ++ (bb, cel tt l) :: L2)]; exact List.getElem?_eq_getElem _
    have hblk : w.heap[bb]? = some (cel tt l) := hst.own (bb, cel tt l) (by simp)
    have hfr : w.frozen? ⟨bb, off + i, none⟩ = false := by simp [World.frozen?, hblk]
    have hrun : (store ((⟨bb, off, none⟩ : Addr).add i) u).run P w = .ok () (w.setCell ⟨bb, off + i, none⟩ u) := by
      rw [addr_add, run_store _ _ _ _ _ (h1 u (by simp))]
      simp [hcell, hfr]
    have hst2 : St w0 S (w.setCell ⟨bb, off + i, none⟩ u) (L1 ++ (bb, cel tt (l.set (off + i) u)) :: L2) := by
      refine hst.put _ ?_ rfl rfl rfl
      apply Array.ext_getElem?
      intro j
      simp only [World.setCell, Array.getElem?_modify, Array.getElem?_setIfInBounds]
      by_cases e : bb = j
      · subst e
        have hlt : bb < w.heap.size := (Array.getElem?_eq_some_iff.1 hblk).1
        have hg : w.heap[bb] = cel tt l := by rw [Array.getElem?_eq_getElem hlt] at hblk; exact Option.some.inj hblk
        simp [hlt, hg]
      · simp [e]
    obtain ⟨w2, hr2, hst3⟩ := ih (i + 1) (l.set (off + i) u) _ (fun v hv => h1 v (List.mem_cons_of_mem _ hv)) hst2 (by simp; omega)
    refine ⟨w2, by simp only [storeCells, Sem.run_bind, hrun, Result.andThen_ok]; exact hr2, ?_⟩
    have e : (l.set (off + i) u).take (off + (i + 1)) ++ us ++ (l.set (off + i) u).drop (off + (i + 1) + us.length) = l.take (off + i) ++ (u :: us) ++ l.drop (off + i + (us.length + 1)) := by
      have hlt : off + i < l.length := by omega
      have e1 : (l.set (off + i) u).take (off + (i + 1)) = l.take (off + i) ++ [u] := by
        rw [show off + (i + 1) = off + i + 1 from rfl, List.take_succ_eq_append_getElem (by simpa using hlt), List.take_set_of_le (Nat.le_refl _)]
        simp
      have e2 : (l.set (off + i) u).drop (off + (i + 1) + us.length) = l.drop (off + i + (us.length + 1)) := by
        rw [show off + (i + 1) + us.length = off + i + (us.length + 1) from by omega]
        exact List.drop_set_of_lt (by omega)
      rw [e1, e2]
      simp
    rw [e] at hst3
    exact hst3
theorem RL.storeG {v : Value} {l ls : List Value} {bb off tt : Nat} {L' : List Ent} (f : List Value → List Value) (hq : c.q = false) (hw : wantE c.n ol ρ ⟨d, .store t x y, ty, pos, af, g⟩ = true) (hs : ∀ w, (sizeOf t).run c.P w = .ok ls.length w) (hx : evE c.n ρ x = .pointer (some ⟨bb, off, none⟩)) (hy : evE c.n ρ y = v) (hv : v.cells = ls.toArray) (h1 : ∀ u ∈ ls, u.oneCell' = true)
    (hlen : off + ls.length ≤ l.length) (hl' : l.take off ++ ls ++ l.drop (off + ls.length) = f l) [hp : PutE bb f tt l L L'] (h : RL c ol rest K Qp (updO ρ d undef) ds L') : RL c ol (⟨d, .store t x y, ty, pos, af, g⟩ :: rest) K Qp ρ ds L := by
  obtain ⟨L1, L2, rfl, rfl⟩ := hp.out
  refine RL.step hq hw rfl fun w hst => ?_
  obtain ⟨w', hr, hst'⟩ := store_cells (P := c.P) (off := off) ls 0 l w h1 hst (by simpa using hlen)
  refine ⟨undef, w', _, .inr ⟨?_, rfl⟩, (by simpa [hl'] using hst'), h⟩
  simp [execOp, hx, hy, Instr.storeAt, Instr.sureAddr, storeVar, Sem.run_bind, hs, hv, hr]
/-- A store of one cell. -/
theorem RL.st1 {v : Value} {l : List Value} {bb off tt : Nat} {L' : List Ent} (hq : c.q = false) (hw : wantE c.n ol ρ ⟨d, .store t x y, ty, pos, af, g⟩ = true) (hs : ∀ w, (sizeOf t).run c.P w = .ok 1 w) (hx : evE c.n ρ x = .pointer (some ⟨bb, off, none⟩)) (hy : evE c.n ρ y = v) (hv : v.cells = #[v]) (h1 : v.oneCell' = true)
    (hlen : off < l.length) [hp : PutE bb (fun l => l.set off v) tt l L L'] (h : RL c ol rest K Qp (updO ρ d undef) ds L') : RL c ol (⟨d, .store t x y, ty, pos, af, g⟩ :: rest) K Qp ρ ds L := by
  refine RL.storeG (ls := [v]) (l := l) (fun l => l.set off v) hq hw hs hx hy hv (by simpa using h1) (by simp; omega) ?_ h
  simp only [List.set_eq_take_append_cons_drop, if_pos hlen]
  simp
theorem RL.stI {l : List Value} {bb off tt : Nat} {L' : List Ent} (hq : c.q = false) (hw : wantE c.n ol ρ ⟨d, .store t x y, ty, pos, af, g⟩ = true) (hs : ∀ w, (sizeOf t).run c.P w = .ok 1 w) (hx : evE c.n ρ x = .pointer (some ⟨bb, off, none⟩)) (hy : evE c.n ρ y = .int k a)
    [hp : PutE bb (fun l => l.set off (.int k a)) tt l L L'] (hlen : off < l.length) (h : RL c ol rest K Qp (updO ρ d undef) ds L') : RL c ol (⟨d, .store t x y, ty, pos, af, g⟩ :: rest) K Qp ρ ds L := RL.st1 hq hw hs hx hy rfl rfl hlen h
theorem RL.stB {b : Bool} {l : List Value} {bb off tt : Nat} {L' : List Ent} (hq : c.q = false) (hw : wantE c.n ol ρ ⟨d, .store t x y, ty, pos, af, g⟩ = true) (hs : ∀ w, (sizeOf t).run c.P w = .ok 1 w) (hx : evE c.n ρ x = .pointer (some ⟨bb, off, none⟩)) (hy : evE c.n ρ y = .bool b)
    [hp : PutE bb (fun l => l.set off (.bool b)) tt l L L'] (hlen : off < l.length) (h : RL c ol rest K Qp (updO ρ d undef) ds L') : RL c ol (⟨d, .store t x y, ty, pos, af, g⟩ :: rest) K Qp ρ ds L := RL.st1 hq hw hs hx hy rfl rfl hlen h
theorem RL.stS {A : Option Addr} {m n : Nat} {l : List Value} {bb off tt : Nat} {L' : List Ent} (hq : c.q = false) (hw : wantE c.n ol ρ ⟨d, .store t x y, ty, pos, af, g⟩ = true) (hs : ∀ w, (sizeOf t).run c.P w = .ok 1 w) (hx : evE c.n ρ x = .pointer (some ⟨bb, off, none⟩)) (hy : evE c.n ρ y = .slice A m n)
    [hp : PutE bb (fun l => l.set off (.slice A m n)) tt l L L'] (hlen : off < l.length) (h : RL c ol rest K Qp (updO ρ d undef) ds L') : RL c ol (⟨d, .store t x y, ty, pos, af, g⟩ :: rest) K Qp ρ ds L := RL.st1 hq hw hs hx hy rfl rfl hlen h
theorem RL.stP {A : Option Addr} {l : List Value} {bb off tt : Nat} {L' : List Ent} (hq : c.q = false) (hw : wantE c.n ol ρ ⟨d, .store t x y, ty, pos, af, g⟩ = true) (hs : ∀ w, (sizeOf t).run c.P w = .ok 1 w) (hx : evE c.n ρ x = .pointer (some ⟨bb, off, none⟩)) (hy : evE c.n ρ y = .pointer A)
    [hp : PutE bb (fun l => l.set off (.pointer A)) tt l L L'] (hlen : off < l.length) (h : RL c ol rest K Qp (updO ρ d undef) ds L') : RL c ol (⟨d, .store t x y, ty, pos, af, g⟩ :: rest) K Qp ρ ds L := RL.st1 hq hw hs hx hy rfl rfl hlen h
theorem RL.stN {l : List Value} {bb off tt : Nat} {L' : List Ent} (hq : c.q = false) (hw : wantE c.n ol ρ ⟨d, .store t x y, ty, pos, af, g⟩ = true) (hs : ∀ w, (sizeOf t).run c.P w = .ok 1 w) (hx : evE c.n ρ x = .pointer (some ⟨bb, off, none⟩)) (hy : evE c.n ρ y = .nilIface)
    [hp : PutE bb (fun l => l.set off (.nilIface)) tt l L L'] (hlen : off < l.length) (h : RL c ol rest K Qp (updO ρ d undef) ds L') : RL c ol (⟨d, .store t x y, ty, pos, af, g⟩ :: rest) K Qp ρ ds L := RL.st1 hq hw hs hx hy rfl rfl hlen h
/-- A whole block is written over. -/
theorem RL.stA {l ls : List Value} {bb tt n : Nat} {L' : List Ent} (hq : c.q = false) (hw : wantE c.n ol ρ ⟨d, .store t x y, ty, pos, af, g⟩ = true) (hs : ∀ w, (sizeOf t).run c.P w = .ok n w) (hx : evE c.n ρ x = .pointer (some ⟨bb, 0, none⟩)) (hy : evE c.n ρ y = .agg ls.toArray)
    [hp : PutE bb (fun _ => ls) tt l L L'] (hn : ls.length = n) (hl : l.length = n) (h1 : ∀ u ∈ ls, u.oneCell' = true) (h : RL c ol rest K Qp (updO ρ d undef) ds L') : RL c ol (⟨d, .store t x y, ty, pos, af, g⟩ :: rest) K Qp ρ ds L :=
  RL.storeG (l := l) (fun _ => ls) hq hw (by rw [hn]; exact hs) hx hy rfl h1 (by omega) (by simp [hn, ← hl]) h
end
end Go.Proofs.YtgmlbaffghogaaaGreatDoor
