/- SYM: a deferred closure that recovers. -/
import Derived.Test.YtnebpklmbefmfaaPanic
set_option linter.unusedVariables false
set_option linter.unusedSimpArgs false
namespace Go.Proofs.Ytnebpklmbefmfaa
open Go.RowKit
section
variable {c : Cx} {Qp : Po} {K : Ko} {ρ : Env} {ds : Ds} {L : List Ent} {ol rest : List Oper} {d : Option Nat} {ty : TypeId} {pos : String} {af : Array Edge} {g : Option (Nat × Bool)} {x : Operand}
theorem RL.deferF {f : FuncId} {ca : Array Value} {ts : Array TypeId} (hq : c.q = false) (hrd : c.rd = none) (hw : wantE c.n ol ρ ⟨d, .defer ⟨.value x, #[], ts⟩, ty, pos, af, g⟩ = true) (hf : evE c.n ρ x = .func (.func f) #[] ca)
    (h : RL c ol rest K Qp (updO ρ d undef) ({ target := .fn (.func f) ca, args := #[] } :: ds) L) : RL c ol (⟨d, .defer ⟨.value x, #[], ts⟩, ty, pos, af, g⟩ :: rest) K Qp ρ ds L := by
  rw [RL_f hq] at h ⊢
  intro w hst
  simp only [wpListIn]
  rw [want_act, hw, if_pos rfl]
  refine ⟨fun f _ => FR_fn _ _, ?_⟩
  have e : (FR c.rd).round = none := hrd
  have hr : (execOp (evE c.n ρ) ⟨d, .defer ⟨.value x, #[], ts⟩, ty, pos, af, g⟩).run c.P w = .ok (.defer { target := .fn (.func f) ca, args := #[] }) w := by
    simp [execOp, resolve, hf, Deferred.ofValue, Sem.run_bind]
  rw [e, Oper.semAt_none, act_eval, hr]
  simp only [Oper.uponIn]
  have := h w hst
  rw [← act_put] at this
  exact this
end
section
variable {c : Cx} {Qp : Po} {K : Ko} {ρ : Env} {ds : Ds} {L : List Ent} {ol rest : List Oper} {d : Option Nat} {ty : TypeId} {pos : String} {af : Array Edge} {g : Option (Nat × Bool)} {x y : Operand} {t t' : TypeId}
theorem RL.neIfc {v1 v2 : Value} {b : Bool} (hw : wantE c.n ol ρ ⟨d, .binOp .neq t x y t', ty, pos, af, g⟩ = true) (hx : evE c.n ρ x = v1) (hy : evE c.n ρ y = v2) (hg : ∀ w, (eqGuard .neq t x y v1 v2).run c.P w = .ok () w) (hr : ∀ w, (binOp .neq t v1 v2).run c.P w = .ok (.bool b) w)
    (h : RL c ol rest K Qp (updO ρ d (.bool b)) ds L) : RL c ol (⟨d, .binOp .neq t x y t', ty, pos, af, g⟩ :: rest) K Qp ρ ds L :=
  RL.pure hw rfl (fun w => by simp only [execOp, hx, hy, Sem.run_bind, hg, Result.andThen_ok, hr, Sem.run_pure]) h
theorem RL.assertC {v r : Value} {cm : Bool} (hw : wantE c.n ol ρ ⟨d, .typeAssert x t t' cm, ty, pos, af, g⟩ = true) (hx : evE c.n ρ x = v) (hr : ∀ w, (Instr.typeAssert v t t' cm).run c.P w = .ok r w)
    (h : RL c ol rest K Qp (updO ρ d r) ds L) : RL c ol (⟨d, .typeAssert x t t' cm, ty, pos, af, g⟩ :: rest) K Qp ρ ds L :=
  RL.pure hw rfl (fun w => by simp only [execOp, hx, Sem.run_bind, hr, Result.andThen_ok, Sem.run_pure]) h
end
/-- A deferred call, from the frame that leaves. -/
def DCtr (P : Program) (f : FuncId) (args : List Value) (u u' : FrameMode) (w : World) (Lp : List Ent) (G : List Ent → Prop) : Prop :=
  CallsDIn (FR none) 0 P f args.toArray u w fun e u2 w' => (∃ v, e = .returned v) ∧ u2 = u' ∧ ∃ L, St w (keys Lp) w' L ∧ G L
def RetD (G : List Ent → Prop) : Po := fun e ρ ds L => match e with | .normal | .ret => ds = [] ∧ G L | _ => False
theorem shut_end {G : List Ent → Prop} {ρ : Env} {L : List Ent} (h : G L) : RetD G .normal ρ [] L := ⟨rfl, h⟩
theorem rec_region {P : Program} {n d1 d2 : Nat} {ρ : Env} {w : World} {cs cs' : List Frame} {v : Value} {ta : Array TypeId} {ty1 ty2 : TypeId} {pos1 pos2 : String} {af1 af2 : Array Edge} {Q : Exit → Act → List Frame → World → Prop}
    (hrec : (match recoverD cs with | some p => p | none => (Value.nilIface, cs)) = (v, cs')) (hd : d1 < n) (h : Q .normal (act n (upd (upd ρ d1 v) d2 v) []) cs' w) :
    wpOpsSIn (FR none) 0 P #[⟨some d1, .call ⟨.builtin .recover, #[], ta⟩, ty1, pos1, af1, none⟩, ⟨some d2, .assign (.tmp d1), ty2, pos2, af2, none⟩] Q [0, 1] (act n ρ []) cs w := by
  have h1 : ∀ ρ : Env, (execOp (evE n ρ) ⟨some d1, .call ⟨.builtin .recover, #[], ta⟩, ty1, pos1, af1, none⟩).run P w = .ok .recover w := fun ρ => by
    simp [execOp, resolve, invoke, builtin, Sem.run_bind]
  have h2 : ∀ ρ : Env, (execOp (evE n ρ) ⟨some d2, .assign (.tmp d1), ty2, pos2, af2, none⟩).run P w = .ok (.value (evE n ρ (.tmp d1))) w := fun ρ => by
    simp [execOp, Sem.run_bind]
  have h3 : evE n (upd ρ d1 v) (.tmp d1) = v := by simp [evE, blt_true hd, upd]
  simp only [wpOpsSIn, List.getElem?_toArray, List.getElem?_cons_zero, List.getElem?_cons_succ, act_eval, h1, Region.wanted, if_true]
  refine ⟨fun f _ => FR_fn _ _, ?_⟩
  cases hr : recoverD cs with
  | some p =>
    rw [hr] at hrec
    simp only at hrec
    subst hrec
    simp only [act_put, updO, act_eval, h2, h3]
    exact ⟨fun f _ => FR_fn _ _, h⟩
  | none =>
    rw [hr] at hrec
    simp only [Prod.mk.injEq] at hrec
    obtain ⟨rfl, rfl⟩ := hrec
    simp only [act_put, updO, act_eval, h2, h3]
    exact ⟨fun f _ => FR_fn _ _, h⟩
theorem DCtr.intro {P : Program} {f : FuncId} {fn : Func} {x : Code} {args : List Value} {u u' : FrameMode} {v : Value} {w : World} {Lp : List Ent} {G : List Ent → Prop} {n d1 d2 id : Nat} {ta : Array TypeId} {ty1 ty2 : TypeId} {pos1 pos2 : String} {af1 af2 : Array Edge}
    (hf : P.funcs[f]? = some fn) (hb : fn.body = some (.seq (.region id #[⟨some d1, .call ⟨.builtin .recover, #[], ta⟩, ty1, pos1, af1, none⟩, ⟨some d2, .assign (.tmp d1), ty2, pos2, af2, none⟩] false) x)) (hr : fn.results = #[])
    (hn : fn.ntmps = n) (ha : args.length ≤ n) (hd : d1 < n) (hrec : ∀ c₀ cs, c₀.mode = u → (match recoverD (c₀ :: cs) with | some p => p | none => (Value.nilIface, c₀ :: cs)) = (v, { c₀ with mode := u' } :: cs))
    (hown : ∀ p ∈ Lp, w.heap[p.1]? = some p.2) (hnd : (keys Lp).Nodup) (h : X ⟨P, none, n, w, keys Lp, false⟩ [.code x] (RetD G) (upd (upd (envOf args) d1 v) d2 v) [] Lp) : DCtr P f args u u' w Lp G := by
  refine callsDIn_of_wpSIn hf hb trivial fun c₀ cs hu => ?_
  rw [hn, act_init, Nat.max_eq_left ha]
  refine wpSIn_seq (wpSIn_region (rec_region (hrec c₀ cs hu) hd ?_))
  show x.wpSIn (FR none) 0 P _ _ _ _
  refine wpSIn_of_wpIn rfl (wpIn_mono (h w (St.init hown hnd)) ?_)
  rintro e a w' ⟨ρ, ds, L, rfl, hst, hq⟩
  cases e with
  | normal => exact ⟨hq.1, u', rfl, _, res0 hr P _ _, ⟨_, rfl⟩, rfl, L, hst, hq.2⟩
  | ret => exact ⟨hq.1, u', rfl, _, res0 hr P _ _, ⟨_, rfl⟩, rfl, L, hst, hq.2⟩
  | panic ch => exact hq.elim
  | exit _ => exact hq.elim
  | goto _ => exact hq.elim
  | outgrown => exact hq.elim
theorem rec_panicking (v : Value) (older : List PanicEntry) (c₀ : Frame) (cs : List Frame) (h : c₀.mode = .panicking ({ v, recovered := false } :: older)) :
    (match recoverD (c₀ :: cs) with | some p => p | none => (Value.nilIface, c₀ :: cs)) = (v, { c₀ with mode := .panicking ({ v, recovered := true } :: older) } :: cs) := by
  simp [recoverD, h]
theorem rec_idle (c₀ : Frame) (cs : List Frame) (h : c₀.mode = .returning) :
    (match recoverD (c₀ :: cs) with | some p => p | none => (Value.nilIface, c₀ :: cs)) = (Value.nilIface, { c₀ with mode := .returning } :: cs) := by
  cases c₀
  simp_all [recoverD]
section
variable {c : Cx} {fn : Func} {R : Value → List Ent → Prop} {ρ : Env} {L : List Ent}
/-- A frame leaves, one deferred call on its way. -/
theorem leave_d {f : FuncId} {ca : List Value} {ds : Ds} {u u' : FrameMode} {Lp Lr : List Ent} {G : List Ent → Prop} {w : World} (hw : St c.w0 c.S w L) (hu : u ≠ .run) (hset : settle u' = .returning)
    (hcall : ∀ args w, (callFunc f args).run c.P w = .ok (.enter f args) w) (hL : L.Perm (Lp ++ Lr)) (hc : ∀ w, St c.w0 c.S w (Lp ++ Lr) → DCtr c.P f ca u u' w Lp G)
    (hr : ∀ L', G L' → ∃ v, (∀ w, St c.w0 c.S w (L' ++ Lr) → (results fn (act c.n ρ ds).tmps).run c.P w = .ok v w) ∧ R v (L' ++ Lr)) :
    LeavesInM (FR none) 0 c.P fn (act c.n ρ ds).tmps (fun e w' => ∃ v L', e = .returned v ∧ St c.w0 c.S w' L' ∧ R v L') [{ target := .fn (.func f) ca.toArray, args := #[] }] u w := by
  refine ⟨hu, .inr ⟨FR_depth _, _, _, f, ca.toArray, rfl, by simp [invoke, hcall], fun _ _ => FR_fn _ _, ?_⟩⟩
  have hst := hw.perm hL.symm
  obtain ⟨h1, h2⟩ := hc w hst
  refine ⟨h1, fun c₀ cs hm hroom => ?_⟩
  obtain ⟨e, u2, w', fr, ⟨⟨v, rfl⟩, rfl, L', h3, h4⟩, h5⟩ := h2 c₀ cs hm hroom
  refine ⟨_, _, _, fr, ?_, h5⟩
  obtain ⟨v2, h6, h7⟩ := hr L' h4
  show LeavesInM (FR none) 0 c.P fn _ _ [] (settle _) w'
  rw [hset]
  exact ⟨v2, h6 w' (hst.comp h3), v2, L' ++ Lr, rfl, hst.comp h3, h7⟩
end
end Go.Proofs.Ytnebpklmbefmfaa
