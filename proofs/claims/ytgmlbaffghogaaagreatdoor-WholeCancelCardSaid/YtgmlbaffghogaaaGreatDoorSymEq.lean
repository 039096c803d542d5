/- SYM: '==' and '!=' of arrays and structs. -/
import Derived.Test.YtgmlbaffghogaaaGreatDoorSymOps
import Derived.ChangeKeysEq
import Derived.Laws.StructEq
set_option linter.unusedVariables false
set_option linter.unusedSimpArgs false
namespace Go.Proofs.YtgmlbaffghogaaaGreatDoor
open Go.RowKit
def EqR (P : Program) (d : Nat) (t : TypeId) (x y : Value) (p : Prop) : Prop := ∀ w, ∃ r : Bool, (Op.equalIn d t x y).run P w = .ok r w ∧ (r = true ↔ p)
section
variable {P : Program} {d : Nat} {t e : TypeId} {xs ys : Array Value}
theorem EqR.congr {x y : Value} {p q : Prop} (h : EqR P d t x y p) (e : p ↔ q) : EqR P d t x y q := fun w => let ⟨r, h1, h2⟩ := h w; ⟨r, h1, h2.trans e⟩
theorem EqR.int {k k' : IntKind} {a b : Int} (hu : P.underlying t = some (.int k')) : EqR P (d + 1) t (.int k a) (.int k b) (a = b) :=
  fun w => ⟨a == b, run_equalIn_int w d t k k' a b hu, by simp⟩
theorem EqR.bool {a b : Bool} (hu : P.underlying t = some .bool) : EqR P (d + 1) t (.bool a) (.bool b) (a = b) :=
  fun w => ⟨a == b, run_equalIn_bool' w d t a b hu, by simp⟩
theorem part_s (hs : Scalar P t) {off : Nat} {v : Value} (hv : xs[off]? = some v) (w : World) : (part t xs off).run P w = .ok v w := by
  simp [part, Sem.run_bind, hs.agg w, hv]
theorem part_a {n : Nat} (hs : AggT P t n) {off : Nat} {l : List Value} (hv : (xs.toList.drop off).take n = l) (w : World) : (part t xs off).run P w = .ok (.agg l.toArray) w := by
  have : xs.extract off (off + n) = l.toArray := by
    rw [← hv]
    apply Array.ext'
    simp [Array.toList_extract, List.extract_eq_take_drop]
  simp [part, Sem.run_bind, hs.agg w, hs.size w, this]
/-- One part of two aggregates. -/
def PartR (P : Program) (d : Nat) (e : TypeId) (xs ys : Array Value) (off : Nat) (p : Prop) : Prop :=
  ∃ a b, (∀ w, (part e xs off).run P w = .ok a w) ∧ (∀ w, (part e ys off).run P w = .ok b w) ∧ EqR P d e a b p
theorem EqR.array {n sz : Nat} {p : Nat → Prop} {i : TypeInfo} (hu : P.underlying t = some (.array n e)) (hi : P.info? e = some i) (hs : P.cellsOf e = sz) (h : ∀ i, i < n → PartR P d e xs ys (i * sz) (p i)) : EqR P (d + 1) t (.agg xs) (.agg ys) (∀ i, i < n → p i) := by
  intro w
  rw [run_equalIn_array w d xs ys hu hi, hs]
  have key : ∀ is : List Nat, (∀ i ∈ is, i < n) → ∃ r : Bool, (Op.eqItems d e sz xs ys is).run P w = .ok r w ∧ (r = true ↔ ∀ i ∈ is, p i) := by
    intro is
    induction is with
    | nil => intro _; exact ⟨true, by simp [Op.eqItems], by simp⟩
    | cons i is ih =>
      intro hall
      obtain ⟨r', hr', hi'⟩ := ih fun j hj => hall j (List.mem_cons_of_mem _ hj)
      obtain ⟨a, b, h1, h2, h3⟩ := h i (hall i (by simp))
      obtain ⟨r, hr, hir⟩ := h3 w
      simp only [Op.eqItems, Sem.run_bind, h1, h2, hr, Result.andThen_ok]
      cases r
      · exact ⟨false, by simp, by simp; intro hp; exact absurd (hir.2 hp) (by simp)⟩
      · refine ⟨r', by simpa using hr', ?_⟩
        rw [hi']; simp [hir.1 rfl]
  obtain ⟨r, hr, hiff⟩ := key (List.range n) (by simp)
  exact ⟨r, hr, by rw [hiff]; simp⟩
inductive FldsR (P : Program) (d : Nat) (xs ys : Array Value) : List Field → Prop → Prop
  | nil : FldsR P d xs ys [] True
  | cons {f : Field} {fs : List Field} {p q : Prop} (hn : (f.name == "_") = false) (h : PartR P d f.type xs ys f.offset p) (hr : FldsR P d xs ys fs q) : FldsR P d xs ys (f :: fs) (p ∧ q)
theorem EqR.struct {fs : Array Field} {p : Prop} (hu : P.underlying t = some (.struct fs)) (hp : P.stoodInHeld t = false) (h : FldsR P d xs ys fs.toList p) : EqR P (d + 1) t (.agg xs) (.agg ys) p := by
  intro w
  have hf : P.fieldsOf t = fs := by simp [Program.fieldsOf, hu]
  rw [run_equalIn_struct (P := P) w d t xs ys (by rw [hf]; exact hu) hp, hf]
  generalize fs.toList = l at h
  clear hu hf
  induction h with
  | nil => exact ⟨true, by simp [Op.eqFields], by simp⟩
  | cons hn h hr ih =>
    rename_i f fs' p' q'
    obtain ⟨r', hr', hi'⟩ := ih
    obtain ⟨a, b, h1, h2, h3⟩ := h
    obtain ⟨r, hr, hir⟩ := h3 w
    have hn' : f.name ≠ "_" := by simpa using hn
    simp only [Op.eqFields, if_pos hn', Sem.run_bind, h1, h2, hr, Result.andThen_ok]
    cases r
    · exact ⟨false, by simp, by simp; intro hp; exact absurd (hir.2 hp) (by simp)⟩
    · refine ⟨r', by simpa using hr', ?_⟩
      rw [hi']; simp [hir.1 rfl]
end
section
variable {c : Cx} {Qp : Po} {K : Ko} {ρ : Env} {ds : Ds} {L : List Ent} {ol rest : List Oper}
variable {d : Option Nat} {ty : TypeId} {pos : String} {af : Array Edge} {g : Option (Nat × Bool)} {t t' : TypeId} {x y : Operand}
theorem run_eqA {P : Program} {n : Nat} {l1 l2 : List Value} {p : Prop} (hg : P.eqGuardType P.depth t = false) (hx : evE n ρ x = .agg l1.toArray) (hy : evE n ρ y = .agg l2.toArray) (he : EqR P 10000 t (.agg l1.toArray) (.agg l2.toArray) p) (w : World) :
    ∃ r : Bool, (r = true ↔ p) ∧ (execOp (evE n ρ) ⟨d, .binOp .eql t x y t', ty, pos, af, g⟩).run P w = .ok (.value (.bool r)) w ∧ (execOp (evE n ρ) ⟨d, .binOp .neq t x y t', ty, pos, af, g⟩).run P w = .ok (.value (.bool (!r))) w := by
  obtain ⟨r, hr, hi⟩ := he w
  refine ⟨r, hi, ?_, ?_⟩
  · simp only [execOp, hx, hy, Sem.run_bind, run_eqGuard_agg w .eql t x y _ _ hg, Result.andThen_ok, run_eql_struct, hr, Sem.run_pure]
  · simp only [execOp, hx, hy, Sem.run_bind, run_eqGuard_agg w .neq t x y _ _ hg, Result.andThen_ok, run_neq_struct, hr, Sem.run_pure]
/-- '==' of aggregates: it parts; 'p' is what it asks. -/
theorem RL.eqA {l1 l2 : List Value} {p : Prop} (hw : wantE c.n ol ρ ⟨d, .binOp .eql t x y t', ty, pos, af, g⟩ = true) (hg : c.P.eqGuardType c.P.depth t = false) (hx : evE c.n ρ x = .agg l1.toArray) (hy : evE c.n ρ y = .agg l2.toArray) (he : EqR c.P 10000 t (.agg l1.toArray) (.agg l2.toArray) p)
    (h1 : p → RL c ol rest K Qp (updO ρ d (.bool true)) ds L) (h2 : ¬ p → RL c ol rest K Qp (updO ρ d (.bool false)) ds L) : RL c ol (⟨d, .binOp .eql t x y t', ty, pos, af, g⟩ :: rest) K Qp ρ ds L := by
  have key := fun w => run_eqA (d := d) (ty := ty) (pos := pos) (af := af) (g := g) (t' := t') hg hx hy he w
  by_cases hp : p
  · exact RL.pure (v := .bool true) hw rfl (fun w => by obtain ⟨r, hi, hr, _⟩ := key w; rw [hr, hi.2 hp]) (h1 hp)
  · exact RL.pure (v := .bool false) hw rfl (fun w => by
      obtain ⟨r, hi, hr, _⟩ := key w
      cases r with
      | true => exact absurd (hi.1 rfl) hp
      | false => exact hr) (h2 hp)
theorem RL.neA {l1 l2 : List Value} {p : Prop} (hw : wantE c.n ol ρ ⟨d, .binOp .neq t x y t', ty, pos, af, g⟩ = true) (hg : c.P.eqGuardType c.P.depth t = false) (hx : evE c.n ρ x = .agg l1.toArray) (hy : evE c.n ρ y = .agg l2.toArray) (he : EqR c.P 10000 t (.agg l1.toArray) (.agg l2.toArray) p)
    (h1 : ¬ p → RL c ol rest K Qp (updO ρ d (.bool true)) ds L) (h2 : p → RL c ol rest K Qp (updO ρ d (.bool false)) ds L) : RL c ol (⟨d, .binOp .neq t x y t', ty, pos, af, g⟩ :: rest) K Qp ρ ds L := by
  have key := fun w => run_eqA (d := d) (ty := ty) (pos := pos) (af := af) (g := g) (t' := t') hg hx hy he w
  by_cases hp : p
  · exact RL.pure (v := .bool false) hw rfl (fun w => by obtain ⟨r, hi, _, hr⟩ := key w; rw [hr, hi.2 hp]; rfl) (h2 hp)
  · exact RL.pure (v := .bool true) hw rfl (fun w => by
      obtain ⟨r, hi, _, hr⟩ := key w
      cases r with
      | true => exact absurd (hi.1 rfl) hp
      | false => exact hr) (h1 hp)
/-- '==' of aggregates, its outcome as a value. -/
theorem RL.eqAd {l1 l2 : List Value} {p : Prop} [Decidable p] (hw : wantE c.n ol ρ ⟨d, .binOp .eql t x y t', ty, pos, af, g⟩ = true) (hg : c.P.eqGuardType c.P.depth t = false) (hx : evE c.n ρ x = .agg l1.toArray) (hy : evE c.n ρ y = .agg l2.toArray) (he : EqR c.P 10000 t (.agg l1.toArray) (.agg l2.toArray) p)
    (h : RL c ol rest K Qp (updO ρ d (.bool (decide p))) ds L) : RL c ol (⟨d, .binOp .eql t x y t', ty, pos, af, g⟩ :: rest) K Qp ρ ds L :=
  RL.eqA hw hg hx hy he (fun hp => by rw [decide_eq_true hp] at h; exact h) (fun hp => by rw [decide_eq_false hp] at h; exact h)
/-! '==' and '!=' of bools -/
theorem RL.eqB {a b : Bool} (hw : wantE c.n ol ρ ⟨d, .binOp .eql t x y t', ty, pos, af, g⟩ = true) (hu : c.P.underlying t = some .bool) (hx : evE c.n ρ x = .bool a) (hy : evE c.n ρ y = .bool b) (h : RL c ol rest K Qp (updO ρ d (.bool (a == b))) ds L) :
    RL c ol (⟨d, .binOp .eql t x y t', ty, pos, af, g⟩ :: rest) K Qp ρ ds L :=
  RL.pure hw rfl (fun w => by simp [execOp, hx, hy, Sem.run_bind, eqGuard, binOp, Op.equal, Op.maxDepth, run_equalIn_bool' w 9999 t a b hu]) h
theorem RL.neB {a b : Bool} (hw : wantE c.n ol ρ ⟨d, .binOp .neq t x y t', ty, pos, af, g⟩ = true) (hu : c.P.underlying t = some .bool) (hx : evE c.n ρ x = .bool a) (hy : evE c.n ρ y = .bool b) (h : RL c ol rest K Qp (updO ρ d (.bool (!(a == b)))) ds L) :
    RL c ol (⟨d, .binOp .neq t x y t', ty, pos, af, g⟩ :: rest) K Qp ρ ds L :=
  RL.pure hw rfl (fun w => by simp [execOp, hx, hy, Sem.run_bind, eqGuard, binOp, Op.equal, Op.maxDepth, run_equalIn_bool' w 9999 t a b hu]) h
end
end Go.Proofs.YtgmlbaffghogaaaGreatDoor
