/- SYM: pointers and slices against nil; an append onto a row that has no room. -/
import Derived.Test.YtnebpklmbefmfaaSymSet
set_option linter.unusedVariables false
set_option linter.unusedSimpArgs false
namespace Go.Proofs.Ytnebpklmbefmfaa
open Go.RowKit
section
variable {c : Cx} {Qp : Po} {K : Ko} {ρ : Env} {ds : Ds} {L : List Ent} {ol rest : List Oper} {d : Option Nat} {ty : TypeId} {pos : String} {af : Array Edge} {g : Option (Nat × Bool)} {t t' : TypeId} {x y : Operand}
theorem run_eqInP {P : Program} {e : TypeId} (w : World) (d : Nat) (t : TypeId) (A : Option Addr) (h : P.underlying t = some (.pointer e)) : (Op.equalIn (d + 1) t (.pointer A) (.pointer none)).run P w = .ok A.isNone w := by
  cases A <;> simp [Op.equalIn, Sem.run_bind, run_underlying h]
theorem run_eqP {P : Program} {e : TypeId} (w : World) (t : TypeId) (A : Option Addr) (h : P.underlying t = some (.pointer e)) : (Op.equal t (.pointer A) (.pointer none)).run P w = .ok A.isNone w := run_eqInP w 9999 t A h
theorem RL.eqP {e : TypeId} {A : Option Addr} {b : Bool} (hw : wantE c.n ol ρ ⟨d, .binOp .eql t x y t', ty, pos, af, g⟩ = true) (hu : c.P.underlying t = some (.pointer e)) (hx : evE c.n ρ x = .pointer A) (hy : evE c.n ρ y = .pointer none) (hb : A.isNone = b) (h : RL c ol rest K Qp (updO ρ d (.bool b)) ds L) :
    RL c ol (⟨d, .binOp .eql t x y t', ty, pos, af, g⟩ :: rest) K Qp ρ ds L :=
  RL.pure hw rfl (fun w => by
    subst hb
    have hg : (eqGuard .eql t x y (.pointer A) (.pointer none)).run c.P w = .ok () w := rfl
    simp only [execOp, hx, hy, Sem.run_bind, hg, Result.andThen_ok, binOp]
    simp [run_eqP w t A hu]) h
theorem RL.neP {e : TypeId} {A : Option Addr} {b : Bool} (hw : wantE c.n ol ρ ⟨d, .binOp .neq t x y t', ty, pos, af, g⟩ = true) (hu : c.P.underlying t = some (.pointer e)) (hx : evE c.n ρ x = .pointer A) (hy : evE c.n ρ y = .pointer none) (hb : (!A.isNone) = b) (h : RL c ol rest K Qp (updO ρ d (.bool b)) ds L) :
    RL c ol (⟨d, .binOp .neq t x y t', ty, pos, af, g⟩ :: rest) K Qp ρ ds L :=
  RL.pure hw rfl (fun w => by
    subst hb
    have hg : (eqGuard .neq t x y (.pointer A) (.pointer none)).run c.P w = .ok () w := rfl
    simp only [execOp, hx, hy, Sem.run_bind, hg, Result.andThen_ok, binOp]
    simp [run_eqP w t A hu]) h
theorem run_eqInSn {P : Program} {e : TypeId} (w : World) (d : Nat) (t : TypeId) (A : Option Addr) (m n : Nat) (h : P.underlying t = some (.slice e)) : (Op.equalIn (d + 1) t (.slice A m n) (.slice none 0 0)).run P w = .ok A.isNone w := by
  cases A <;> simp [Op.equalIn, Sem.run_bind, run_underlying h]
theorem run_eqSn {P : Program} {e : TypeId} (w : World) (t : TypeId) (A : Option Addr) (m n : Nat) (h : P.underlying t = some (.slice e)) : (Op.equal t (.slice A m n) (.slice none 0 0)).run P w = .ok A.isNone w := run_eqInSn w 9999 t A m n h
theorem RL.eqSn {e sz m n : Nat} {A : Option Addr} {b : Bool} (hw : wantE c.n ol ρ ⟨d, .binOp .eql t x y t', ty, pos, af, g⟩ = true) (hT : SlT c.P t e sz) (hx : evE c.n ρ x = .slice A m n) (hy : evE c.n ρ y = .slice none 0 0) (hb : A.isNone = b) (h : RL c ol rest K Qp (updO ρ d (.bool b)) ds L) :
    RL c ol (⟨d, .binOp .eql t x y t', ty, pos, af, g⟩ :: rest) K Qp ρ ds L :=
  RL.pure hw rfl (fun w => by
    subst hb
    have hg : (eqGuard .eql t x y (.slice A m n) (.slice none 0 0)).run c.P w = .ok () w := rfl
    simp only [execOp, hx, hy, Sem.run_bind, hg, Result.andThen_ok, binOp]
    simp [run_eqSn w t A m n hT.und]) h
end
section
variable {c : Cx} {Qp : Po} {K : Ko} {ρ : Env} {ds : Ds} {L : List Ent} {ol rest : List Oper} {d : Option Nat} {ty : TypeId} {pos : String} {af : Array Edge} {g : Option (Nat × Bool)} {t t' : TypeId} {x y : Operand}
theorem RL.convE {k kd : IntKind} {a b : Int} (hw : wantE c.n ol ρ ⟨d, .convert t t' x, ty, pos, af, g⟩ = true) (hs : c.P.underlying t = some (.int k)) (hd : c.P.underlying t' = some (.int kd)) (hx : evE c.n ρ x = .int k a) (hb : kd.wrap a = b) (h : RL c ol rest K Qp (updO ρ d (.int kd b)) ds L) :
    RL c ol (⟨d, .convert t t' x, ty, pos, af, g⟩ :: rest) K Qp ρ ds L := RL.conv hw hs hd hx (by rw [hb]; exact h)
end
section
variable {c : Cx} {fn : Func} {R : Value → List Ent → Prop} {ρ : Env} {L : List Ent}
theorem rescA2 {P : Program} {p t m : Nat} {ty tt : TypeId} (h : fn.results = #[.cell p ty, .tmp t]) {n : Nat} {ds : Ds} {b : Nat} {l : List Value} {fr : Nat × Nat} {w0 w : World} {S : List Nat} (hp : evE n ρ (.tmp p) = .pointer (some ⟨b, 0, none⟩)) (hT : AggT P ty m) (hst : St w0 S w L) (hm : (b, Obj.cells l.toArray tt fr) ∈ L) (hl : l.length = m) :
    (results fn (act n ρ ds).tmps).run P w = .ok (.tuple #[.agg l.toArray, evE n ρ (.tmp t)]) w := by
  have e : ∀ t, (act n ρ ds).tmps[t]?.getD undef = evE n ρ (.tmp t) := fun t => by have := act_get n ρ ds t; simpa [evE] using this
  have := run_loadA (P := P) hT hl (show CellsAt w b 0 l by simpa using hst.cellsO hm 0)
  simp [results, h, e, hp, asAddr, Sem.run_bind, this]
theorem retcA2 {p t b m : Nat} {ty tt : TypeId} {l : List Value} {fr : Nat × Nat} (hr : fn.results = #[.cell p ty, .tmp t]) (hT : AggT c.P ty m) (hp : evE c.n ρ (.tmp p) = .pointer (some ⟨b, 0, none⟩)) [hm : HasE b (.cells l.toArray tt fr) L] (hl : l.length = m)
    (h : withV (evE c.n ρ (.tmp t)) fun v1 => R (.tuple #[.agg l.toArray, v1]) L) : RetQ c fn R .ret ρ [] L :=
  ret_of (fun w hw => rescA2 hr hp hT hw hm.out hl) (by simp only [withV_eq] at h; exact h)
end
theorem perm_last (a b : Ent) (L : List Ent) : (L ++ [b, a]).Perm (a :: (L ++ [b])) := by
  have := List.perm_append_comm (l₁ := L ++ [b]) (l₂ := [a])
  simpa using this
end Go.Proofs.Ytnebpklmbefmfaa
