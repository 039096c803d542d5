/- SYM, more: facts out of what is known; dropping; functions against nil; results that lie in a variable; an aggregate that is built. -/
import Derived.Test.YtjaibkfmkhfjfaaSymEq
import Derived.Test.YtjaibkfmkhfjfaaSymMem
import Derived.Test.YtjaibkfmkhfjfaaSymRange
set_option linter.unusedVariables false
set_option linter.unusedSimpArgs false
namespace Go.Proofs.Ytjaibkfmkhfjfaa
open Go.RowKit
instance (priority := low) HasE.left (b : Nat) (o : Obj) (L1 L : List Ent) [h : HasE b o L1] : HasE b o (L1 ++ L) := ⟨List.mem_append_left _ h.out⟩
instance (priority := low) PutE.left (b : Nat) (f : List Value → List Value) (tt : TypeId) (l : List Value) (L0 L L' : List Ent) [h : PutE b f tt l L L'] : PutE b f tt l (L ++ L0) (L' ++ L0) :=
  ⟨let ⟨L1, L2, h1, h2⟩ := h.out; ⟨L1, L2 ++ L0, by rw [h1]; simp, by rw [h2]; simp⟩⟩
section
variable {c : Cx} {k : List KI} {Q Qp : Po} {K : Ko} {ρ : Env} {ds : Ds} {L : List Ent} {ol rest : List Oper}
/-- A fact that the known blocks tell. -/
theorem X.fact {x : Code} {p : Prop} (h1 : ∀ w, St c.w0 c.S w L → p) (h2 : p → X c (.code x :: k) Q ρ ds L) : X c (.code x :: k) Q ρ ds L := fun w hw => h2 (h1 w hw) w hw
theorem RL.drop {L' : List Ent} (hq : c.q = false) (hs : L'.Sublist L) (h : RL c ol rest K Qp ρ ds L') : RL c ol rest K Qp ρ ds L := by
  rw [RL_f hq] at h ⊢
  exact fun w hw => h w (hw.sub hs)
theorem RL.fact {p : Prop} (hq : c.q = false) (h1 : ∀ w, St c.w0 c.S w L → p) (h2 : p → RL c ol rest K Qp ρ ds L) : RL c ol rest K Qp ρ ds L := by
  rw [RL_f hq]
  intro w hw
  have := h2 (h1 w hw)
  rw [RL_f hq] at this
  exact this w hw
theorem RL.perm {L' : List Ent} (hq : c.q = false) (hs : L'.Perm L) (h : RL c ol rest K Qp ρ ds L') : RL c ol rest K Qp ρ ds L := by
  rw [RL_f hq] at h ⊢
  exact fun w hw => h w (hw.perm hs)
variable {d : Option Nat} {ty : TypeId} {pos : String} {af : Array Edge} {g : Option (Nat × Bool)} {t t' : TypeId} {x y : Operand}
theorem run_equalIn_func_nil {P : Program} (w : World) (d : Nat) (t : TypeId) {ps rs : Array TypeId} {b : Bool} (f : Fn) (u v : Array Value) (h : P.underlying t = some (.func ps rs b)) : (Op.equalIn (d + 1) t (.func f u v) .nilFunc).run P w = .ok false w := by
  simp [Op.equalIn, run_underlying h]
theorem run_equal_func_nil {P : Program} (w : World) (t : TypeId) {ps rs : Array TypeId} {b : Bool} (f : Fn) (u v : Array Value) (h : P.underlying t = some (.func ps rs b)) : (Op.equal t (.func f u v) .nilFunc).run P w = .ok false w := run_equalIn_func_nil w 9999 t f u v h
theorem run_neq_func_nil {P : Program} (w : World) (t : TypeId) {ps rs : Array TypeId} {b : Bool} (f : Fn) (u v : Array Value) (h : P.underlying t = some (.func ps rs b)) : (binOp .neq t (.func f u v) .nilFunc).run P w = .ok (.bool true) w := by
  simp only [binOp]
  simp [run_equal_func_nil w t f u v h]
theorem RL.neNilF {ps rs : Array TypeId} {b : Bool} {f : Fn} {u v : Array Value} (hw : wantE c.n ol ρ ⟨d, .binOp .neq t x y t', ty, pos, af, g⟩ = true) (hu : c.P.underlying t = some (.func ps rs b)) (hx : evE c.n ρ x = .func f u v) (hy : evE c.n ρ y = .nilFunc) (h : RL c ol rest K Qp (updO ρ d (.bool true)) ds L) :
    RL c ol (⟨d, .binOp .neq t x y t', ty, pos, af, g⟩ :: rest) K Qp ρ ds L :=
  RL.pure hw rfl (fun w => by
    have hg : (eqGuard .neq t x y (.func f u v) .nilFunc).run c.P w = .ok () w := rfl
    simp only [execOp, hx, hy, Sem.run_bind, hg, Result.andThen_ok, run_neq_func_nil w t f u v hu, Sem.run_pure]) h
end
section
variable {c : Cx} {fn : Func} {R : Value → List Ent → Prop} {ρ : Env} {L : List Ent} {D : Nat}
theorem resc1 {P : Program} {p : Nat} {ty tt : TypeId} (h : fn.results = #[.cell p ty]) {n : Nat} {ds : Ds} {b : Nat} {v : Value} {l : List Value} {fr : Nat × Nat} {w0 w : World} {S : List Nat} (hp : evE n ρ (.tmp p) = .pointer (some ⟨b, 0, none⟩)) (hT : Scalar P ty) (hst : St w0 S w L) (hm : (b, Obj.cells l.toArray tt fr) ∈ L) (hv : l[0]? = some v) :
    (results fn (act n ρ ds).tmps).run P w = .ok v w := by
  have e : (act n ρ ds).tmps[p]?.getD undef = .pointer (some ⟨b, 0, none⟩) := by have := act_get n ρ ds p; rw [← hp]; simpa [evE] using this
  have := run_loadS (P := P) hT (show w.cell? ⟨b, 0, none⟩ = some v by rw [hst.cellO hm, hv])
  simp [results, h, e, asAddr, Sem.run_bind, this]
theorem retc1 {p b : Nat} {ty tt : TypeId} {v : Value} {l : List Value} {fr : Nat × Nat} (hr : fn.results = #[.cell p ty]) (hT : Scalar c.P ty) (hp : evE c.n ρ (.tmp p) = .pointer (some ⟨b, 0, none⟩)) [hm : HasE b (.cells l.toArray tt fr) L] (hv : l[0]? = some v) (h : R v L) : RetQ c fn R .ret ρ [] L :=
  ret_of (fun w hw => resc1 hr hp hT hw hm.out hv) h
theorem retmc1 {p b : Nat} {ty tt : TypeId} {v : Value} {l : List Value} {fr : Nat × Nat} (hr : fn.results = #[.cell p ty]) (hT : Scalar c.P ty) (hp : evE c.n ρ (.tmp p) = .pointer (some ⟨b, 0, none⟩)) [hm : HasE b (.cells l.toArray tt fr) L] (hv : l[0]? = some v) (h : R v L) :
    RetQ c fn R .ret ρ [{ target := .collected D, args := #[] }] ((D, .deferred (some [])) :: L) :=
  leaves_mark (fun w hw => resc1 hr hp hT hw hm.out hv) h
end
end Go.Proofs.Ytjaibkfmkhfjfaa
