/- SYM: functions that may panic with the reader's word; a deferred closure that recovers. -/
import Derived.Test.YtnebpklmbefmfaaClassE
import Derived.RecoverIn
set_option linter.unusedVariables false
set_option linter.unusedSimpArgs false
namespace Go.Proofs.Ytnebpklmbefmfaa
open Go.RowKit
def shortV : Value := .iface 114 (.agg #[])
def shortCh : List PanicEntry := [{ v := shortV, recovered := false }]
/-- It returns what R says, or gives up, and then N. -/
def EndP (w : World) (S : List Nat) (R : Value → List Ent → Prop) (N : Prop) : Ending → World → Prop := fun e w' => (∃ v L', e = .returned v ∧ St w S w' L' ∧ R v L') ∨ (e = .panicked shortCh ∧ St w S w' [] ∧ N)
def CtrP (P : Program) (f : FuncId) (args : List Value) (w : World) (Lp : List Ent) (R : Value → List Ent → Prop) (N : Prop) : Prop := CallsIn (FR none) 0 P f args.toArray w (EndP w (keys Lp) R N)
theorem CtrP.mono {P : Program} {f : FuncId} {args : List Value} {w : World} {Lp : List Ent} {R R' : Value → List Ent → Prop} {N N' : Prop} (h : CtrP P f args w Lp R N) (hr : ∀ v L, R v L → R' v L) (hn : N → N') : CtrP P f args w Lp R' N' :=
  CallsIn.mono h fun _ _ he => he.imp (fun ⟨v, L', h1, h2, h3⟩ => ⟨v, L', h1, h2, hr _ _ h3⟩) (fun ⟨h1, h2, h3⟩ => ⟨h1, h2, hn h3⟩)
def RetQP (c : Cx) (fn : Func) (R : Value → List Ent → Prop) (N : Prop) : Po := fun e ρ ds L =>
  match e with
  | .normal | .ret => ∀ w, St c.w0 c.S w L → LeavesInM (FR none) 0 c.P fn (act c.n ρ ds).tmps (EndP c.w0 c.S R N) ds .returning w
  | .panic ch => ∀ w, St c.w0 c.S w L → LeavesInM (FR none) 0 c.P fn (act c.n ρ ds).tmps (EndP c.w0 c.S R N) ds (.panicking ch) w
  | _ => False
theorem CtrP.intro {P : Program} {f : FuncId} {fn : Func} {x : Code} {args : List Value} {w : World} {Lp : List Ent} {R : Value → List Ent → Prop} {N : Prop} {n : Nat} (hf : P.funcs[f]? = some fn) (hb : fn.body = some x)
    (hn : fn.ntmps = n) (ha : args.length ≤ n) (hown : ∀ p ∈ Lp, w.heap[p.1]? = some p.2) (hnd : (keys Lp).Nodup) (h : X ⟨P, none, n, w, keys Lp, false⟩ [.code x] (RetQP ⟨P, none, n, w, keys Lp, false⟩ fn R N) (envOf args) [] Lp) : CtrP P f args w Lp R N := by
  refine callsIn_of_wp_marks (F := FR none) (n := 0) hf hb trivial ?_ rfl
  rw [hn, act_init, Nat.max_eq_left ha]
  refine wpIn_mono (h w (St.init hown hnd)) ?_
  rintro e a w' ⟨ρ, ds, L, rfl, hst, hq⟩
  cases e with
  | normal => exact hq w' hst
  | ret => exact hq w' hst
  | panic ch => exact hq w' hst
  | exit _ => exact hq.elim
  | goto _ => exact hq.elim
  | outgrown => exact hq.elim
section
variable {c : Cx} {fn : Func} {R : Value → List Ent → Prop} {N : Prop} {ρ : Env} {L : List Ent}
theorem pan_end (hN : N) : RetQP c fn R N (.panic shortCh) ρ [] L := fun w hw => .inr ⟨rfl, hw.sub (List.nil_sublist _), hN⟩
theorem ret_ofP {v : Value} (hv : ∀ w, St c.w0 c.S w L → (results fn (act c.n ρ []).tmps).run c.P w = .ok v w) (h : R v L) : RetQP c fn R N .ret ρ [] L := fun w hw => ⟨v, hv w hw, .inl ⟨v, L, rfl, hw, h⟩⟩
theorem ret1P {t : Nat} (hr : fn.results = #[.tmp t]) (h : withV (evE c.n ρ (.tmp t)) fun v => R v L) : RetQP c fn R N .ret ρ [] L := ret_ofP (fun w _ => by rw [res1 hr]) (by rw [withV_eq] at h; exact h)
theorem rescA1 {P : Program} {p m : Nat} {ty tt : TypeId} (h : fn.results = #[.cell p ty]) {n : Nat} {ds : Ds} {b : Nat} {l : List Value} {fr : Nat × Nat} {w0 w : World} {S : List Nat} (hp : evE n ρ (.tmp p) = .pointer (some ⟨b, 0, none⟩)) (hT : AggT P ty m) (hst : St w0 S w L) (hm : (b, Obj.cells l.toArray tt fr) ∈ L) (hl : l.length = m) :
    (results fn (act n ρ ds).tmps).run P w = .ok (.agg l.toArray) w := by
  have e : ∀ t, (act n ρ ds).tmps[t]?.getD undef = evE n ρ (.tmp t) := fun t => by have := act_get n ρ ds t; simpa [evE] using this
  have := run_loadA (P := P) hT hl (show CellsAt w b 0 l by simpa using hst.cellsO hm 0)
  simp [results, h, e, hp, asAddr, Sem.run_bind, this]
theorem retcA1P {p b m : Nat} {ty tt : TypeId} {l : List Value} {fr : Nat × Nat} (hr : fn.results = #[.cell p ty]) (hT : AggT c.P ty m) (hp : evE c.n ρ (.tmp p) = .pointer (some ⟨b, 0, none⟩)) [hm : HasE b (.cells l.toArray tt fr) L] (hl : l.length = m) (h : R (.agg l.toArray) L) : RetQP c fn R N .ret ρ [] L :=
  ret_ofP (fun w hw => rescA1 hr hp hT hw hm.out hl) h
theorem retcA1 {p b m : Nat} {ty tt : TypeId} {l : List Value} {fr : Nat × Nat} (hr : fn.results = #[.cell p ty]) (hT : AggT c.P ty m) (hp : evE c.n ρ (.tmp p) = .pointer (some ⟨b, 0, none⟩)) [hm : HasE b (.cells l.toArray tt fr) L] (hl : l.length = m) (h : R (.agg l.toArray) L) : RetQ c fn R .ret ρ [] L :=
  ret_of (fun w hw => rescA1 hr hp hT hw hm.out hl) h
theorem rescAB {P : Program} {p q m : Nat} {ty tb tt tu : TypeId} (h : fn.results = #[.cell p ty, .cell q tb]) {n : Nat} {ds : Ds} {b b' : Nat} {l : List Value} {v : Value} {w0 w : World} {S : List Nat} (hp : evE n ρ (.tmp p) = .pointer (some ⟨b, 0, none⟩)) (hq : evE n ρ (.tmp q) = .pointer (some ⟨b', 0, none⟩)) (hT : AggT P ty m) (hB : Scalar P tb) (hst : St w0 S w L)
    (hm : (b, cel tt l) ∈ L) (hm' : (b', cel tu [v]) ∈ L) (hl : l.length = m) : (results fn (act n ρ ds).tmps).run P w = .ok (.tuple #[.agg l.toArray, v]) w := by
  have e : ∀ t, (act n ρ ds).tmps[t]?.getD undef = evE n ρ (.tmp t) := fun t => by have := act_get n ρ ds t; simpa [evE] using this
  have h1 := run_loadA (P := P) hT hl (show CellsAt w b 0 l by simpa using hst.cellsO hm 0)
  have h2 := run_loadS (P := P) hB (show w.cell? ⟨b', 0, none⟩ = some v by rw [hst.cellO hm']; rfl)
  simp [results, h, e, hp, hq, asAddr, Sem.run_bind, h1, h2]
end
section
variable {c : Cx} {Qp : Po} {K : Ko} {ρ : Env} {ds : Ds} {L : List Ent} {ol rest : List Oper} {d : Option Nat} {ty : TypeId} {pos : String} {af : Array Edge} {g : Option (Nat × Bool)} {t t' : TypeId} {x y : Operand}
/-- A call of a function that may give up. -/
theorem RL.fnP {f : FuncId} {vals : List Value} {Lp Lr : List Ent} {R : Value → List Ent → Prop} {N : Prop} {cal : Operand} {xs : Array Operand} {ts : Array TypeId} (hq : c.q = false) (hw : wantE c.n ol ρ ⟨d, .call ⟨.value cal, xs, ts⟩, ty, pos, af, g⟩ = true)
    (hf : evE c.n ρ cal = .func (.func f) #[] #[]) (he : ∀ args w, (callFunc f args).run c.P w = .ok (.enter f args) w) (hL : L.Perm (Lp ++ Lr)) (hc : ∀ w, St c.w0 c.S w (Lp ++ Lr) → CtrP c.P f vals w Lp R N) (ha : argsE c.n ρ xs = vals) (hp : N → Qp (.panic shortCh) ρ ds Lr)
    (h : ∀ v L', R v L' → withV v fun v => RL c ol rest K Qp (updO ρ d v) ds (L' ++ Lr)) : RL c ol (⟨d, .call ⟨.value cal, xs, ts⟩, ty, pos, af, g⟩ :: rest) K Qp ρ ds L := by
  refine RL.enter (f := f) (args := vals.toArray) hq hw rfl (fun w => ?_) (fun w hst => ?_)
  · subst ha
    simp [execOp, resolve, Deferred.ofValue, hf, invoke, Sem.run_bind, he, argsE, ← Array.toList_map]
  · have hst' := hst.perm hL.symm
    refine CallsIn.mono (hc w hst') ?_
    rintro e w' (⟨v, L', rfl, h2, h3⟩ | ⟨rfl, h2, h3⟩)
    · refine ⟨L' ++ Lr, hst'.comp h2, ?_⟩
      have := h v L' h3
      rw [withV_eq] at this
      exact this
    · exact ⟨Lr, by simpa using hst'.comp h2, hp h3⟩
theorem RL.panicI {ti : TypeId} {v : Value} (hq : c.q = false) (hw : wantE c.n ol ρ ⟨d, .panic x, ty, pos, af, g⟩ = true) (hx : evE c.n ρ x = .iface ti v) (h : Qp (.panic [{ v := .iface ti v, recovered := false }]) ρ ds L) : RL c ol (⟨d, .panic x, ty, pos, af, g⟩ :: rest) K Qp ρ ds L :=
  RL.panics (w1 := id) hq hw rfl fun w hst => ⟨w, L, by
    have h1 : ∀ w, (Instr.panic (.iface ti v)).run c.P w = .halt (.panic (.iface ti v)) w := fun w => rfl
    simp [execOp, hx, Sem.run_bind, h1], hst, h⟩
theorem RL.mkIface {v : Value} (hw : wantE c.n ol ρ ⟨d, .makeInterface t x, ty, pos, af, g⟩ = true) (hx : evE c.n ρ x = v) (hr : ∀ w, (Instr.makeInterface t v).run c.P w = .ok (.iface t v) w) (h : RL c ol rest K Qp (updO ρ d (.iface t v)) ds L) : RL c ol (⟨d, .makeInterface t x, ty, pos, af, g⟩ :: rest) K Qp ρ ds L :=
  RL.pure hw rfl (fun w => by simp [execOp, hx, Sem.run_bind, hr w]) h
end
end Go.Proofs.Ytnebpklmbefmfaa
