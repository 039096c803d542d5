/- WholeFar: EvW. -/
import Derived.RecoverIn
import Derived.Test.YtpcdcemcjbeajaaGreatDoorWf07
set_option linter.unusedVariables false
set_option linter.unusedSimpArgs false
namespace Go.Proofs.YtpcdcemcjbeajaaGreatDoor
open Go.RowKit
theorem hasB_ok {P : Program} {g : FuncId} (h : hasB P g = true) (args : Array Value) (w : World) : (callFunc g args).run P w = .ok (.enter g args) w := by
  unfold hasB at h
  split at h
  · rename_i fn hf
    rw [Bool.and_eq_true] at h
    have h1 : fn.body ≠ none := by cases hb : fn.body with
      | none => rw [hb] at h; cases h.1
      | some x => simp
    have h2 : (fn.name == "runtime.NumGoroutine") = false := by
      cases e : (fn.name == "runtime.NumGoroutine") with
      | false => rfl
      | true => rw [e] at h; cases h.2
    have h3 : fn.name ≠ "runtime.NumGoroutine" := by simpa using h2
    simp [callFunc, Sem.run_bind, hf, h3, h1]
  · cases h
theorem Called.ctr {P : Program} {g : FuncId} {args : List Value} {w : World} {L : List Ent} {R : Value → List Ent → Prop} (h : Called P g args w L R) (he : ∀ args w, (callFunc g args).run P w = .ok (.enter g args) w) : Ctr P g args w L R := by
  rcases h with ⟨_, h⟩ | ⟨x, w', L', h1, _⟩
  · exact h
  · rw [he] at h1; cases h1
theorem W.exCd {c : Cx} {e : Ex} {Q : Po} {ρ : Env} {ds : Ds} {L : List Ent} (h : Q (exE e) ρ ds L) (he : e ≠ .n) : W c (exCode (exE e)) Q ρ ds L := by
  cases e with
  | n => exact absurd rfl he
  | x id => exact X.exit_out (k := []) rfl h
  | r => exact X.ret (k := []) h
theorem loop_end {P : Program} {σ : Sg} {nx3 m : Nm} {h2 : Hp} {L' : List Ent} {w w2 : World} {S : List Nat} {b cc n0 : Nat} {e : Ex} {env0 : En} {ps : List Nat} {asg body : Code} (hH : HR σ nx3 h2 L') (hm : get8 m h2 = some (.lp e n0 env0 ps asg body)) (hb : σ m = some (b, cc)) (hst : St w S w2 L') :
    ∃ L'' w3, (Instr.endLoop b).run P w2 = .ok (exJump (exE e)) w3 ∧ St w S w3 L'' ∧ HR σ nx3 (set8 m none h2) L'' := by
  obtain ⟨b', c', ob, h1, h3, fn, ρ, ds, dfs, h4, rfl⟩ := hH.own _ _ hm
  rw [hb] at h1; injection h1 with h1; injection h1 with e1 e2; subst e1 e2
  have hl := hst.own _ h3
  obtain ⟨L1, L2, rfl⟩ := mem_split h3
  refine ⟨L1 ++ L2, _, run_endLoop hl (by simp only; split <;> simp), ?_, hH.drop hm hb⟩
  exact (hst.putObj _).sub ((List.Sublist.refl L1).append ((List.Sublist.refl L2).cons _))
theorem rfSnd {P : Program} {ih : Ih} (hS : Snd P ih) : RfSnd P ih := by
  intro n q f ps asg body env h nx dd e env' h' nx' dd' hr c σ ρ ds L hP hn hq hrd hE hH hds
  subst hP hn
  show W c (.rangeFunc f ps asg body) _ ρ ds L
  unfold r_rf at hr
  split at hr
  rotate_left
  · cases hr
  rename_i g caps hf
  obtain ⟨hb, hr⟩ := cond_ok hr (fun n => by simp)
  have he := hasB_ok hb
  obtain ⟨vs, h1, h2⟩ := (show okX σ (.f g caps) _ from trA_ok hE hf)
  cases q with
  | true =>
    obtain ⟨nx1, hx, hr⟩ := newK_ok (show newK nx _ = _ from hr) (fun n => by simp)
    obtain ⟨v, h2', nx2, g1, hr⟩ := onF_ok hr (fun n => by simp)
    obtain ⟨e1, n1, env1, ps1, asg1, body1, g2, hr⟩ := onLp_ok hr (fun n => by simp)
    injection hr with a1 a2 a3 a4 a5; subst a1 a2 a3 a4 a5
    obtain ⟨l₀, r₀, hro, hr₀, hS₀⟩ := hrd
    intro w hst
    refine wpIn_rangeFunc ?_
    intro fn hfn
    have hrd : (FR c.rd).round = some l₀ := by rw [hro]; rfl
    have hw₀ : w.heap[l₀]? = some (.loop r₀) := by rw [hst.keep l₀ (Array.getElem?_eq_some_iff.1 hr₀).1 hS₀]; exact hr₀
    rw [hrd]
    obtain ⟨rec, hrec⟩ : ∃ rec : Loop, rec = { state := .ready, pending := none, fn, tmps := (act c.n ρ ds).tmps, params := ps, assign := asg, body, defers := r₀.defers } := ⟨_, rfl⟩
    obtain ⟨W1, hW1⟩ : ∃ W1, w.alloc (.loop rec) = W1 := ⟨_, rfl⟩
    have hstW : St c.w0 c.S W1 ((w.heap.size, Obj.loop rec) :: L) := by
      rw [← hW1]
      exact hst.alloc (.loop rec)
    refine ⟨w.heap.size, [], W1, { target := .fn (.func g) vs.toArray, args := #[.func (.yield (w.heap.size)) #[] #[]] }, W1, g,
      #[.func (.yield (w.heap.size)) #[] #[]] ++ vs.toArray, W1, ?_, ?_, ?_, ?_, FR_depth _, ?_⟩
    · rw [← hW1, hrec]; exact run_enterLoop_inner hw₀ _ _ _ _ _
    · rw [act_eval]; simp only [resolve, rangeCall, h2]; simp [Deferred.ofValue, evE]
    · intro f' hf'; exact FR_fn _ _
    · simp [invoke, he]
    obtain ⟨k1, k2⟩ := hH.new hx (b := w.heap.size) (cap := 0) (o := .lp .n c.n env ps.toList asg body) (ob := .loop rec) (fun p hp e => by have := hst.lt hp; omega) ⟨fn, ρ, ds, r₀.defers, hE, by rw [hrec]; rfl⟩
    have hy : okV (σ.ext nx (w.heap.size, 0)) (.s (.x (.y nx))) (.func (.yield w.heap.size) #[] #[]) := ⟨_, _, Sg.ext_same _ _, rfl⟩
    have hcal := (hS.fn g _ _ nx1 v h2' nx2 g1 _ W1 _ (.func (.yield w.heap.size) #[] #[] :: vs) ⟨hy, (capVs_ok h1).mono (fun _ _ => okV_mono k1)⟩ k2 hstW.own hstW.nodup).ctr he
    have hc2 : CallsIn (FR c.rd) 0 c.P g (Value.func (Fn.yield (w.heap.size)) #[] #[] :: vs).toArray W1 _ := hcal
    rw [show (#[Value.func (Fn.yield (w.heap.size)) #[] #[]] ++ vs.toArray : Array Value) = (Value.func (Fn.yield (w.heap.size)) #[] #[] :: vs).toArray from by simp]
    refine CallsIn.mono hc2 ?_
    rintro _ W2 ⟨v', L', rfl, hst2, σ', z1, z2, z3⟩
    have hst3 := St.keysS hstW hst2
    obtain ⟨L'', w3, j1, j2, j3⟩ := loop_end (P := c.P) z3 g2 (z1 _ _ (Sg.ext_same _ _)) hst3
    have hle : Sg.le σ σ' := k1.trans z1
    cases e1 with
    | n => exact ⟨none, w3, j1, ⟨ρ, ds, L'', rfl, j2, ⟨rfl, σ', hle, hE.mono hle, j3, DR.all_mono hle hds⟩⟩⟩
    | x id => exact ⟨some _, w3, j1, W.exCd (e := .x id) (c := c) ⟨rfl, σ', hle, hE.mono hle, j3, DR.all_mono hle hds⟩ (by simp) w3 j2⟩
    | r => exact ⟨some _, w3, j1, W.exCd (e := .r) (c := c) ⟨rfl, σ', hle, hE.mono hle, j3, DR.all_mono hle hds⟩ (by simp) w3 j2⟩
  | false =>
    obtain ⟨nx1, hx, hr⟩ := newK_ok (show newK nx _ = _ from hr) (fun n => by simp)
    obtain ⟨nx2, hx2, hr⟩ := newK_ok hr (fun n => by simp)
    obtain ⟨v, h2', nx3, g1, hr⟩ := onF_ok hr (fun n => by simp)
    obtain ⟨e1, n1, env1, ps1, asg1, body1, g2, hr⟩ := onLp_ok hr (fun n => by simp)
    injection hr with a1 a2 a3 a4 a5; subst a1 a2 a3 a4 a5
    have hro : c.rd = none := hrd
    intro w hst
    refine wpIn_rangeFunc ?_
    intro fn hfn
    have hrd : (FR c.rd).round = none := by rw [hro]; rfl
    rw [hrd]
    obtain ⟨rec, hrec⟩ : ∃ rec : Loop, rec = { state := .ready, pending := none, fn, tmps := (act c.n ρ ds).tmps, params := ps, assign := asg, body, defers := w.heap.size } := ⟨_, rfl⟩
    obtain ⟨W1, hW1⟩ : ∃ W1, (w.alloc (.deferred (some []))).alloc (.loop rec) = W1 := ⟨_, rfl⟩
    have hstW : St c.w0 c.S W1 ((w.heap.size + 1, Obj.loop rec) :: ((w.heap.size, Obj.deferred (some [])) :: L)) := by
      rw [← hW1]
      have := (hst.alloc (.deferred (some []))).alloc (.loop rec)
      rwa [World.size_alloc] at this
    refine ⟨w.heap.size + 1, [{ target := .collected w.heap.size, args := #[] }], W1, { target := .fn (.func g) vs.toArray, args := #[.func (.yield (w.heap.size + 1)) #[] #[]] }, W1, g,
      #[.func (.yield (w.heap.size + 1)) #[] #[]] ++ vs.toArray, W1, ?_, ?_, ?_, ?_, FR_depth _, ?_⟩
    · rw [← hW1, hrec]; exact run_enterLoop_outer _ _ _ _ _
    · rw [act_eval]; simp only [resolve, rangeCall, h2]; simp [Deferred.ofValue, evE]
    · intro f' hf'; exact FR_fn _ _
    · simp [invoke, he]
    obtain ⟨k1, k2⟩ := hH.new hx (b := w.heap.size) (cap := 0) (o := .dm) (ob := .deferred (some [])) (fun p hp e => by have := hst.lt hp; omega) rfl
    obtain ⟨k3, k4⟩ := k2.new hx2 (b := w.heap.size + 1) (cap := 0) (o := .lp .n c.n env ps.toList asg body) (ob := .loop rec) (fun p hp e => by
      rcases List.mem_cons.1 hp with rfl | hp
      · simp at e
      · have := hst.lt hp; omega) ⟨fn, ρ, ds, w.heap.size, hE.mono k1, by rw [hrec]; rfl⟩
    have hy : okV ((σ.ext nx (w.heap.size, 0)).ext nx1 (w.heap.size + 1, 0)) (.s (.x (.y nx1))) (.func (.yield (w.heap.size + 1)) #[] #[]) := ⟨_, _, Sg.ext_same _ _, rfl⟩
    have hcal := (hS.fn g _ _ nx2 v h2' nx3 g1 _ W1 _ (.func (.yield (w.heap.size + 1)) #[] #[] :: vs) ⟨hy, (capVs_ok h1).mono (fun _ _ => okV_mono (k1.trans k3))⟩ k4 hstW.own hstW.nodup).ctr he
    have hc2 : CallsIn (FR c.rd) 0 c.P g (Value.func (Fn.yield (w.heap.size + 1)) #[] #[] :: vs).toArray W1 _ := hcal
    rw [show (#[Value.func (Fn.yield (w.heap.size + 1)) #[] #[]] ++ vs.toArray : Array Value) = (Value.func (Fn.yield (w.heap.size + 1)) #[] #[] :: vs).toArray from by simp]
    refine CallsIn.mono hc2 ?_
    rintro _ W2 ⟨v', L', rfl, hst2, σ', z1, z2, z3⟩
    have hst3 := St.keysS hstW hst2
    obtain ⟨L'', w3, j1, j2, j3⟩ := loop_end (P := c.P) z3 g2 (z1 _ _ (Sg.ext_same _ _)) hst3
    have hle : Sg.le σ σ' := (k1.trans k3).trans z1
    have hmk : DR σ' (.mk nx) { target := .collected w.heap.size, args := #[] } := ⟨_, _, (k3.trans z1) _ _ (Sg.ext_same _ _), rfl⟩
    cases e1 with
    | n => exact ⟨none, w3, j1, ⟨ρ, _, L'', rfl, j2, ⟨rfl, σ', hle, hE.mono hle, j3, ⟨hmk, DR.all_mono hle hds⟩⟩⟩⟩
    | x id => exact ⟨some _, w3, j1, W.exCd (e := .x id) (c := c) (ds := { target := .collected w.heap.size, args := #[] } :: ds) ⟨rfl, σ', hle, hE.mono hle, j3, ⟨hmk, DR.all_mono hle hds⟩⟩ (by simp) w3 j2⟩
    | r => exact ⟨some _, w3, j1, W.exCd (e := .r) (c := c) (ds := { target := .collected w.heap.size, args := #[] } :: ds) ⟨rfl, σ', hle, hE.mono hle, j3, ⟨hmk, DR.all_mono hle hds⟩⟩ (by simp) w3 j2⟩
end Go.Proofs.YtpcdcemcjbeajaaGreatDoor
set_option linter.unusedVariables false
set_option linter.unusedSimpArgs false
namespace Go.Proofs.YtpcdcemcjbeajaaGreatDoor
open Go.RowKit
def DCtr (P : Program) (f : FuncId) (args : List Value) (u u' : FrameMode) (w : World) (Lp : List Ent) (G : List Ent → Prop) : Prop :=
  CallsDIn (FR none) 0 P f args.toArray u w fun e u2 w' => (∃ v, e = .returned v) ∧ u2 = u' ∧ ∃ L, St w (keys Lp) w' L ∧ G L
def RetD (G : List Ent → Prop) : Po := fun e ρ ds L => match e with | .normal | .ret => ds = [] ∧ G L | _ => False
theorem rec_region {P : Program} {n d1 d2 : Nat} {ρ : Env} {w : World} {cs cs' : List Frame} {v : Value} {ta : Array TypeId} {ty1 ty2 : TypeId} {pos1 pos2 : String} {af1 af2 : Array Edge} {Q : Exit → Act → List Frame → World → Prop}
    (hrec : (match recoverD cs with | some p => p | none => (Value.nilIface, cs)) = (v, cs')) (hd : d1 < n) (h : Q .normal (act n (upd (upd ρ d1 v) d2 v) []) cs' w) :
    wpOpsSIn (FR none) 0 P #[⟨some d1, .call ⟨.builtin .recover, #[], ta⟩, ty1, pos1, af1, none⟩, ⟨some d2, .assign (.tmp d1), ty2, pos2, af2, none⟩] Q [0, 1] (act n ρ []) cs w := by
  have h1 : ∀ ρ : Env, (execOp (evE n ρ) ⟨some d1, .call ⟨.builtin .recover, #[], ta⟩, ty1, pos1, af1, none⟩).run P w = .ok .recover w := fun ρ => by
    simp [execOp, resolve, invoke, builtin, Sem.run_bind]
  have h2 : ∀ ρ : Env, (execOp (evE n ρ) ⟨some d2, .assign (.tmp d1), ty2, pos2, af2, none⟩).run P w = .ok (.value (evE n ρ (.tmp d1))) w := fun ρ => by
    simp [execOp, Sem.run_bind]
  have h3 : evE n (upd ρ d1 v) (.tmp d1) = v := by simp [evE, blt_true hd, upd]
  simp only [wpOpsSIn, List.getElem?_toArray, List.getElem?_cons_zero, List.getElem?_cons_succ, act_eval, h1, Region.wanted, if_true]
  refine ⟨fun f _ => FR_fn _ _, ?_⟩
  cases hr : recoverD cs with
  | some p =>
    rw [hr] at hrec
    simp only at hrec
    subst hrec
    simp only [act_put, updO, act_eval, h2, h3]
    exact ⟨fun f _ => FR_fn _ _, h⟩
  | none =>
    rw [hr] at hrec
    simp only [Prod.mk.injEq] at hrec
    obtain ⟨rfl, rfl⟩ := hrec
    simp only [act_put, updO, act_eval, h2, h3]
    exact ⟨fun f _ => FR_fn _ _, h⟩
theorem DCtr.intro {P : Program} {f : FuncId} {fn : Func} {x : Code} {args : List Value} {u u' : FrameMode} {v : Value} {w : World} {Lp : List Ent} {G : List Ent → Prop} {n d1 d2 id : Nat} {ta : Array TypeId} {ty1 ty2 : TypeId} {pos1 pos2 : String} {af1 af2 : Array Edge}
    (hf : P.funcs[f]? = some fn) (hb : fn.body = some (.seq (.region id #[⟨some d1, .call ⟨.builtin .recover, #[], ta⟩, ty1, pos1, af1, none⟩, ⟨some d2, .assign (.tmp d1), ty2, pos2, af2, none⟩] false) x)) (hr : fn.results = #[])
    (hn : fn.ntmps = n) (ha : args.length ≤ n) (hd : d1 < n) (hrec : ∀ c₀ cs, c₀.mode = u → (match recoverD (c₀ :: cs) with | some p => p | none => (Value.nilIface, c₀ :: cs)) = (v, { c₀ with mode := u' } :: cs))
    (hown : ∀ p ∈ Lp, w.heap[p.1]? = some p.2) (hnd : (keys Lp).Nodup) (h : X ⟨P, none, n, w, keys Lp, false⟩ [.code x] (RetD G) (upd (upd (envOf args) d1 v) d2 v) [] Lp) : DCtr P f args u u' w Lp G := by
  refine callsDIn_of_wpSIn hf hb trivial fun c₀ cs hu => ?_
  rw [hn, act_init, Nat.max_eq_left ha]
  refine wpSIn_seq (wpSIn_region (rec_region (hrec c₀ cs hu) hd ?_))
  show x.wpSIn (FR none) 0 P _ _ _ _
  refine wpSIn_of_wpIn rfl (wpIn_mono (h w (St.init hown hnd)) ?_)
  rintro e a w' ⟨ρ, ds, L, rfl, hst, hq⟩
  cases e with
  | normal => exact ⟨hq.1, u', rfl, _, res0 hr P _ _, ⟨_, rfl⟩, rfl, L, hst, hq.2⟩
  | ret => exact ⟨hq.1, u', rfl, _, res0 hr P _ _, ⟨_, rfl⟩, rfl, L, hst, hq.2⟩
  | panic ch => exact hq.elim
  | exit _ => exact hq.elim
  | goto _ => exact hq.elim
  | outgrown => exact hq.elim
theorem rec_idle (c₀ : Frame) (cs : List Frame) (h : c₀.mode = .returning) :
    (match recoverD (c₀ :: cs) with | some p => p | none => (Value.nilIface, c₀ :: cs)) = (Value.nilIface, { c₀ with mode := .returning } :: cs) := by
  cases c₀
  simp_all [recoverD]
theorem recB_ok {fn : Func} {d1 d2 : Nat} {x : Code} (h : recB fn = some (d1, d2, x)) : fn.results = #[] ∧ slotB d1 fn.ntmps = true ∧ slotB d2 fn.ntmps = true ∧ ∃ id ta ty1 ty2 pos1 pos2 af1 af2, fn.body = some (.seq (.region id #[⟨some d1, .call ⟨.builtin .recover, #[], ta⟩, ty1, pos1, af1, none⟩, ⟨some d2, .assign (.tmp d1), ty2, pos2, af2, none⟩] false) x) := by
  unfold recB at h
  split at h
  · rename_i id ops y hb
    split at h
    · rename_i d1' as ta ty1 pos1 af1 d2' d3 ty2 pos2 af2 ho
      split at h
      · rename_i h1 h2
        cases hc : (Nat.beq d1' d3 && slotB d1' fn.ntmps && slotB d2' fn.ntmps) with
        | false => rw [hc] at h; cases h
        | true =>
          rw [hc] at h
          injection h with h; injection h with e1 h; injection h with e2 e3; subst e1 e2 e3
          rw [Bool.and_eq_true, Bool.and_eq_true] at hc
          have := Nat.eq_of_beq_eq_true hc.1.1; subst this
          obtain rfl : as = #[] := by apply Array.ext'; simpa using h1
          refine ⟨by apply Array.ext'; simpa using h2, hc.1.2, hc.2, id, ta, ty1, ty2, pos1, pos2, af1, af2, ?_⟩
          rw [hb]
          rw [arr2 ho]
      · cases h
    · cases h
  · cases h
section
variable {P : Program} {ih : Ih} {fn : Func} {c : Cx} {ρ : Env} {σ : Sg}
theorem er_from : ∀ {vs : List V} {args : List Value} {i : Nat} {t : En} {n : Nat} {ρ : Env}, All2 (okV σ) vs args → ER σ n t ρ → i + vs.length ≤ n → i + vs.length ≤ 256 → (∀ j, j < args.length → ρ (i + j) = args.getD j undef) → ER σ n (envFrom vs i t) ρ
  | [], [], i, t, n, ρ, _, hE, _, _, _ => hE
  | v :: vs, a :: args, i, t, n, ρ, hv, hE, h1, h2, hρ => by
    simp only [List.length_cons] at h1 h2
    refine er_from (i := i + 1) hv.2 ?_ (by omega) (by omega) (fun j hj => ?_)
    · intro s w g1 g2 g3
      by_cases e : s = i
      · subst e
        rw [get4_same] at g3; injection g3 with g3; subst g3
        have := hρ 0 (by simp)
        simp at this
        rw [this]; exact hv.1
      · rw [get4_ne (fun e2 => e (slotK_inj g2 (by omega) e2))] at g3
        exact hE s w g1 g2 g3
    · have := hρ (j + 1) (by simp; omega)
      rw [show i + 1 + j = i + (j + 1) by omega, this]; simp
  | [], _ :: _, _, _, _, _, h, _, _, _, _ => h.elim
  | _ :: _, [], _, _, _, _, h, _, _, _, _ => h.elim
theorem er_none {n : Nat} {ρ : Env} : ER σ n noEnv ρ := fun t v _ _ h => by rw [show get4 (slotK t) noEnv = none from get4_emp _ _] at h; cases h
theorem er_args {vs : List V} {args : List Value} {n : Nat} (hv : All2 (okV σ) vs args) (h1 : vs.length ≤ n) (h2 : vs.length ≤ 256) : ER σ n (envFrom vs 0 noEnv) (envOf args) :=
  er_from hv er_none (by omega) (by omega) (fun j hj => by simp [envOf])
theorem leave_e {f : FuncId} {ca : List Value} {L : List Ent} {R : Value → List Ent → Prop} {u u' : FrameMode} {Lp Lr : List Ent} {G : List Ent → Prop} {w : World} {tm : Array Value} (hw : St c.w0 c.S w L) (hu : u ≠ .run) (hset : settle u' = .returning)
    (hcall : ∀ args w, (callFunc f args).run c.P w = .ok (.enter f args) w) (hL : L.Perm (Lp ++ Lr)) (hc : ∀ w, St c.w0 c.S w (Lp ++ Lr) → DCtr c.P f ca u u' w Lp G)
    (hr : ∀ L', G L' → ∃ v, (∀ w, St c.w0 c.S w (L' ++ Lr) → (results fn tm).run c.P w = .ok v w) ∧ R v (L' ++ Lr)) :
    LeavesInM (FR none) 0 c.P fn tm (fun e w' => ∃ v L', e = .returned v ∧ St c.w0 c.S w' L' ∧ R v L') [{ target := .fn (.func f) ca.toArray, args := #[] }] u w := by
  refine ⟨hu, .inr ⟨FR_depth _, _, _, f, ca.toArray, rfl, by simp [invoke, hcall], fun _ _ => FR_fn _ _, ?_⟩⟩
  have hst := hw.perm hL.symm
  obtain ⟨h1, h2⟩ := hc w hst
  refine ⟨h1, fun c₀ cs hm hroom => ?_⟩
  obtain ⟨e, u2, w', fr, ⟨⟨v, rfl⟩, rfl, L', h3, h4⟩, h5⟩ := h2 c₀ cs hm hroom
  refine ⟨_, _, _, fr, ?_, h5⟩
  obtain ⟨v2, h6, h7⟩ := hr L' h4
  show LeavesInM (FR none) 0 c.P fn _ _ [] (settle _) w'
  rw [hset]
  exact ⟨v2, h6 w' (hst.comp h3), v2, L' ++ Lr, rfl, hst.comp h3, h7⟩
theorem leaveD_ok (hS : Snd P ih) (hD : DrawSnd P ih) (hP : c.P = P) {tm : Array Value} {R : Value → List Ent → Prop} {σ₀ : Sg} : ∀ {dd : List D} {h : Hp} {nx : Nm} {h' : Hp} {nx' : Nm}, leaveD P ih dd h nx = some (h', nx') → ∀ {σ : Sg} {ds : Ds} {L : List Ent}, Sg.le σ₀ σ → All2 (DR σ) dd ds → HR σ nx h L →
    (∀ σ' L', Sg.le σ₀ σ' → HR σ' nx' h' L' → ∃ v, (∀ w, St c.w0 c.S w L' → (results fn tm).run P w = .ok v w) ∧ R v L') → ∀ w, St c.w0 c.S w L → LeavesInM (FR none) 0 c.P fn tm (fun e w' => ∃ v L', e = .returned v ∧ St c.w0 c.S w' L' ∧ R v L') ds .returning w
  | [], h, nx, h', nx', hl, σ, [], L, hle, _, hH, hR, w, hst => by
    injection hl with hl; injection hl with e1 e2; subst e1 e2
    obtain ⟨v, h1, h2⟩ := hR σ L hle hH
    subst hP
    exact ⟨v, h1 w hst, v, L, rfl, hst, h2⟩
  | .mk m :: r, h, nx, h', nx', hl, σ, d :: ds, L, hle, hd, hH, hR, w, hst => by
    have hl' : (match get8 m h with | some .dm => leaveD P ih r (set8 m none h) nx | _ => none) = some (h', nx') := by
      cases r <;> exact hl
    split at hl'
    · rename_i hm
      obtain ⟨b, cc, h1, rfl⟩ := hd.1
      obtain ⟨b', c', ob, h2, h3, h4⟩ := hH.own _ _ hm
      rw [h1] at h2; injection h2 with h2; injection h2 with e1 e2; subst e1 e2
      cases (show ob = _ from h4)
      have hown := hst.own _ h3
      obtain ⟨L1, L2, rfl⟩ := mem_split h3
      have h5 := hst.putObj (.deferred none)
      have h6 : St c.w0 c.S (w.putObj b (.deferred none)) (L1 ++ L2) := h5.sub ((List.Sublist.refl L1).append ((List.Sublist.refl L2).cons _))
      exact ⟨by simp, .inl ⟨b, _, rfl, run_takeDeferred hown, leaveD_ok hS hD hP hl' hle hd.2 (hH.drop hm h1) hR _ h6⟩⟩
    · cases hl'
  | [.cl f caps], h, nx, h', nx', hl, σ, [d], L, hle, hd, hH, hR, w, hst => by
    have hl' : (match P.funcs[f]? with
      | some fn => (match recB fn with
        | some (d1, d2, x) => cond (hasB P f && Nat.ble caps.length fn.ntmps && Nat.ble caps.length 256) (match evC P fn.ntmps false x ih (mod4 (slotK d2) (fun _ => some (.s (.x .nn))) (mod4 (slotK d1) (fun _ => some (.s (.x .nn))) (envFrom (capVs caps) 0 noEnv))) h nx [] with
            | .C .n _ h nx [] => some (h, nx)
            | .C .r _ h nx [] => some (h, nx)
            | _ => none) none
        | none => none)
      | none => none) = some (h', nx') := hl
    split at hl'
    rotate_left
    · cases hl'
    rename_i fn2 hf
    split at hl'
    rotate_left
    · cases hl'
    rename_i d1 d2 x hrb
    obtain ⟨g1, g2, g3, id, ta, ty1, ty2, pos1, pos2, af1, af2, g4⟩ := recB_ok hrb
    cases hc : (hasB P f && Nat.ble caps.length fn2.ntmps && Nat.ble caps.length 256) with
    | false => rw [hc] at hl'; cases hl'
    | true =>
      rw [hc] at hl'
      rw [Bool.and_eq_true, Bool.and_eq_true] at hc
      have c1 := Nat.le_of_ble_eq_true hc.1.2
      have c2 := Nat.le_of_ble_eq_true hc.2
      obtain ⟨vs, h1, rfl⟩ := hd.1
      have hcv := capVs_ok h1
      have hlen := hcv.length
      have hlen2 := h1.length
      have hE0 : ER σ fn2.ntmps (envFrom (capVs caps) 0 noEnv) (envOf vs) := er_args hcv (by omega) (by omega)
      have p1 : ∀ (d : Nat) (env : En), slotB d fn2.ntmps = true → mod4 (slotK d) (fun _ => some (.s (.x .nn))) env = put (dstP fn2.ntmps (some d)) (.s (.x .nn)) env := fun d env hb => by
        show _ = put (cond (slotB d fn2.ntmps) (some (slotK d)) none) _ env
        rw [hb]; rfl
      have hE : ER σ fn2.ntmps (mod4 (slotK d2) (fun _ => some (.s (.x .nn))) (mod4 (slotK d1) (fun _ => some (.s (.x .nn))) (envFrom (capVs caps) 0 noEnv))) (upd (upd (envOf vs) d1 .nilIface) d2 .nilIface) := by
        rw [p1 d2 _ g3, p1 d1 _ g2]
        exact er_put (d := some d2) (er_put (d := some d1) hE0 (v := .s (.x .nn)) (x := .nilIface) rfl) (v := .s (.x .nn)) (x := .nilIface) rfl
      have fin : ∀ e env' (hr : evC P fn2.ntmps false x ih (mod4 (slotK d2) (fun _ => some (.s (.x .nn))) (mod4 (slotK d1) (fun _ => some (.s (.x .nn))) (envFrom (capVs caps) 0 noEnv))) h nx [] = .C e env' h' nx' []) (he : e = .n ∨ e = .r),
          LeavesInM (FR none) 0 c.P fn tm (fun e w' => ∃ v L', e = .returned v ∧ St c.w0 c.S w' L' ∧ R v L') [{ target := .fn (.func f) vs.toArray, args := #[] }] .returning w := by
        intro e env' hr he
        subst hP
        refine leave_e (c := c) (L := L) (Lp := L) (Lr := []) (u' := .returning) (G := fun L' => ∃ σ', Sg.le σ₀ σ' ∧ HR σ' nx' h' L') hst (by simp) rfl (hasB_ok hc.1.1) (by simp) (fun w1 hst1 => ?_) (fun L' ⟨σ', y1, y2⟩ => by
          obtain ⟨v, k1, k2⟩ := hR σ' L' y1 y2
          exact ⟨v, by simpa using k1, by simpa using k2⟩)
        rw [List.append_nil] at hst1
        refine DCtr.intro hf g4 g1 rfl (by omega) (slotB_ok g2).1 (fun c₀ cs hm => rec_idle c₀ cs hm) hst1.own hst1.nodup ?_
        have := evC_ok hS (opSnd hS) hD (rfSnd hS) fn2.ntmps false x _ _ _ _ _ _ _ _ _ hr ⟨c.P, none, fn2.ntmps, w1, keys L, false⟩ σ _ [] L rfl rfl rfl rfl hE hH trivial
        refine W.mono this.toW ?_
        rintro e' ρ' ds' L' ⟨rfl, σ', z1, z2, z3, z4⟩
        cases ds' with
        | cons => exact z4.elim
        | nil => rcases he with rfl | rfl <;> exact ⟨rfl, σ', hle.trans z1, z3⟩
      simp only [cond_true] at hl'
      split at hl'
      · rename_i env' _ _ hr
        injection hl' with hl'; injection hl' with e1 e2; subst e1 e2
        exact fin .n env' hr (.inl rfl)
      · rename_i env' _ _ hr
        injection hl' with hl'; injection hl' with e1 e2; subst e1 e2
        exact fin .r env' hr (.inr rfl)
      · cases hl'
  | .cl _ _ :: _ :: _, _, _, _, _, hl, _, _, _, _, _, _, _, _, _ => by cases hl
  | [], _, _, _, _, _, _, _ :: _, _, _, h, _, _, _, _ => h.elim
  | _ :: _, _, _, _, _, _, _, [], _, _, h, _, _, _, _ => h.elim
  | [.cl _ _], _, _, _, _, _, _, _ :: _ :: _, _, _, h, _, _, _, _ => h.2.elim
end
end Go.Proofs.YtpcdcemcjbeajaaGreatDoor
set_option linter.unusedVariables false
set_option linter.unusedSimpArgs false
namespace Go.Proofs.YtpcdcemcjbeajaaGreatDoor
open Go.RowKit
section
variable {P : Program} {w0 : World} {B : List Nat} {σ : Sg} {nx : Nm} {h : Hp} {L : List Ent} {n : Nat} {env : En} {ρ : Env}
theorem mkV_ok {ag : Bool} {l : List S} {v : V} {vs : List Value} (hm : mkV ag l = some v) (hl : All2 (okS σ) l vs) : (ag = true ∧ okV σ v (.agg vs.toArray)) ∨ (ag = false ∧ ∃ u, vs = [u] ∧ okV σ v u) := by
  unfold mkV at hm
  split at hm
  · injection hm with hm; subst hm; exact .inl ⟨rfl, vs, hl, rfl⟩
  · rename_i x
    injection hm with hm; subst hm
    cases vs with
    | nil => exact hl.elim
    | cons u vs =>
      cases vs with
      | nil => exact .inr ⟨rfl, u, rfl, hl.1⟩
      | cons => exact hl.2.elim
  · cases hm
def resV (tm : Array Value) (r : ResultVar) : Sem Value := match r with
  | .tmp t => pure (tm.getD t undef)
  | .cell a t => do loadVar t (← asAddr (tm.getD a undef))
theorem results_eq (fn : Func) (tm : Array Value) : results fn tm = (do let vs ← fn.results.mapM (resV tm); pure (if h : vs.size = 1 then vs[0] else .tuple vs)) := rfl
theorem resL_ok (hE : ER σ n env ρ) (hH : HR σ nx h L) : ∀ {rs : List ResultVar} {vs : List V}, resL P n env h rs = some vs → ∃ xs, All2 (okV σ) vs xs ∧ ∀ (ds : Ds) w, St w0 B w L → (rs.mapM (resV (act n ρ ds).tmps)).run P w = .ok xs w
  | [], vs, hr => by injection hr with hr; subst hr; exact ⟨[], trivial, fun ds w _ => by simp⟩
  | .tmp t :: rs, vs, hr => by
    have hr' : (match getA env (trA n (.tmp t)), resL P n env h rs with | some v, some r => some (v :: r) | _, _ => none) = some vs := hr
    split at hr'
    · rename_i v r h1 h2
      injection hr' with hr'; subst hr'
      obtain ⟨xs, h3, h4⟩ := resL_ok hE hH h2
      refine ⟨_ :: xs, ⟨trA_ok hE h1, h3⟩, fun ds w hw => ?_⟩
      have e : (resV (act n ρ ds).tmps (.tmp t)).run P w = .ok (evE n ρ (.tmp t)) w := by show Result.ok ((act n ρ ds).tmps.getD t undef) w = _; rw [act_get]; rfl
      simp only [List.mapM_cons, Sem.run_bind, e, Result.andThen_ok, h4 ds w hw, Sem.run_pure]
    · cases hr'
  | .cell a t :: rs, vs, hr => by
    have hr' : (match getA env (trA n (.tmp a)), aggT P t, szT P t, resL P n env h rs with
      | some (.s (.p m o)), some ag, some s, some r => (match get8 m h with | some (.c _ _ _ ks) => (match (cut ks o s).bind (mkV ag) with | some v => some (v :: r) | none => none) | _ => none)
      | _, _, _, _ => none) = some vs := hr
    split at hr'
    · rename_i m o ag s r h1 h2 h3 h4
      split at hr'
      · rename_i q rr nn ks h5
        split at hr'
        · rename_i v h6
          injection hr' with hr'; subst hr'
          obtain ⟨xs, h7, h8⟩ := resL_ok hE hH h4
          obtain ⟨cs, h9, h10⟩ := obind h6
          obtain ⟨b, cc, h11, h12⟩ := okV_p (trA_ok hE h1)
          obtain ⟨b', c', vv, junk, h13, h14, h15, _⟩ := cells_of hH h5
          rw [h11] at h13; injection h13 with h13; injection h13 with e1 e2; subst e1 e2
          obtain ⟨h16, h17⟩ := cut_ok h9
          have h18 : All2 (okS σ) cs ((vv.drop o).take s) := by rw [h16]; exact (h15.drop o).take s
          have h19 : ((vv.drop o).take s).length = s := by rw [← h18.length]; exact h17
          have key : ∃ x, okV σ v x ∧ ∀ w, St w0 B w L → (loadVar t ⟨b, o, none⟩).run P w = .ok x w := by
            rcases mkV_ok h10 h18 with ⟨rfl, hv⟩ | ⟨rfl, u, hu, hv⟩
            · exact ⟨_, hv, fun w hw => run_loadA (P := P) (aggT_of h2 h3) h19 (cells_cut hw h14)⟩
            · have hs1 : s = 1 := by rw [← h19, hu]; rfl
              subst hs1
              refine ⟨u, hv, fun w hw => run_loadS (P := P) (scalar_of h2 h3) ?_⟩
              have := cells_cut (o := o) (m := 1) hw h14 0 u (by rw [hu]; rfl)
              simpa using this
          obtain ⟨x, k1, k2⟩ := key
          refine ⟨x :: xs, ⟨k1, h7⟩, fun ds w hw => ?_⟩
          have e : (act n ρ ds).tmps.getD a undef = .pointer (some ⟨b, o, none⟩) := by rw [act_get]; exact h12
          have e2 : (resV (act n ρ ds).tmps (.cell a t)).run P w = .ok x w := by
            show ((do loadVar t (← asAddr ((act n ρ ds).tmps.getD a undef)) : Sem Value)).run P w = _
            rw [e]
            simp [asAddr, Sem.run_bind, k2 w hw]
          simp only [List.mapM_cons, Sem.run_bind, Result.andThen_ok, e2, h8 ds w hw, Sem.run_pure]
        · cases hr'
      · cases hr'
    · cases hr'
theorem toA1_ok : ∀ {vs : List V} {l : List A1} {xs : List Value}, vs.mapM toA1 = some l → All2 (okV σ) vs xs → All2 (okA σ) l xs
  | [], l, [], h, _ => by simp at h; subst h; trivial
  | v :: vs, l, x :: xs, h, hv => by
    rw [List.mapM_cons] at h
    cases h1 : toA1 v with
    | none => rw [h1] at h; cases h
    | some a =>
      cases h2 : vs.mapM toA1 with
      | none => rw [h1, h2] at h; cases h
      | some l2 =>
        rw [h1, h2] at h
        injection h with h; subst h
        refine ⟨?_, toA1_ok h2 hv.2⟩
        cases v with
        | s y => injection h1 with h1; subst h1; exact hv.1
        | a y => injection h1 with h1; subst h1; exact hv.1
        | t y => cases h1
  | [], _, _ :: _, _, h => h.elim
  | _ :: _, _, [], _, h => h.elim
theorem packV_ok {vs : List V} {v : V} {xs : List Value} (hp : packV vs = some v) (hv : All2 (okV σ) vs xs) : okV σ v (if h : xs.toArray.size = 1 then xs.toArray[0] else .tuple xs.toArray) := by
  unfold packV at hp
  split at hp
  · rename_i u
    injection hp with hp; subst hp
    cases xs with
    | nil => exact hv.elim
    | cons x xs =>
      cases xs with
      | nil => exact hv.1
      | cons => exact hv.2.elim
  · rename_i h1
    cases h2 : vs.mapM toA1 with
    | none => rw [h2] at hp; cases hp
    | some l =>
      rw [h2] at hp
      injection hp with hp; subst hp
      have hne : ¬ xs.toArray.size = 1 := fun e => by
        have hl := hv.length
        have : vs.length = 1 := by simp at e; omega
        obtain ⟨u, rfl⟩ := List.length_eq_one_iff.1 this
        exact h1 u rfl
      rw [dif_neg hne]
      exact ⟨xs, toA1_ok h2 hv, rfl⟩
theorem results_ok {fn : Func} {vs : List V} {v : V} (hE : ER σ n env ρ) (hH : HR σ nx h L) (hr : resL P n env h fn.results.toList = some vs) (hp : packV vs = some v) (ds : Ds) : ∃ x, okV σ v x ∧ ∀ w, St w0 B w L → (results fn (act n ρ ds).tmps).run P w = .ok x w := by
  obtain ⟨xs, h1, h2⟩ := resL_ok (w0 := w0) (B := B) hE hH hr
  refine ⟨_, packV_ok hp h1, fun w hw => ?_⟩
  rw [results_eq, Sem.run_bind, ← Array.toArray_toList (xs := fn.results), List.mapM_toArray, Sem.run_map, h2 ds w hw]
  rfl
end
section
variable {P : Program} {clone cmpB : FuncId} {mo : FuncId → Option (List V → Hp → Nm → Rs)}
def FOk (P : Program) (g : FuncId) (vs : List V) (h : Hp) (nx : Nm) (v : V) (h' : Hp) (nx' : Nm) : Prop :=
  ∀ σ w L args, All2 (okV σ) vs args → HR σ nx h L → (∀ p ∈ L, w.heap[p.1]? = some p.2) → (keys L).Nodup → Called P g args w L (fun x L' => ∃ σ', Sg.le σ σ' ∧ okV σ' v x ∧ HR σ' nx' h' L')
def ExtOk (P : Program) (clone cmpB : FuncId) : Prop := ∀ g fn vs h nx v h' nx', P.funcs[g]? = some fn → fn.body = none → extF clone cmpB g vs h nx = .F v h' nx' → FOk P g vs h nx v h' nx'
def MemoOk (P : Program) (mo : FuncId → Option (List V → Hp → Nm → Rs)) : Prop := ∀ g m, mo g = some m → ∀ vs h nx v h' nx', m vs h nx = .F v h' nx' → FOk P g vs h nx v h' nx'
theorem fn_ok {ih : Ih} (hX : ExtOk P clone cmpB) (hM : MemoOk P mo) (hS : Snd P ih) (hD : DrawSnd P ih) {g : FuncId} {vs : List V} {h : Hp} {nx : Nm} {v : V} {h' : Hp} {nx' : Nm} (hr : evF P clone cmpB mo g ih vs h nx = .F v h' nx') : FOk P g vs h nx v h' nx' := by
  unfold evF at hr
  split at hr
  · rename_i m hm; exact hM g m hm _ _ _ _ _ _ hr
  · split at hr
    · rename_i fn hf
      split at hr
      · rename_i x hb
        obtain ⟨hc, hr⟩ := cond_ok hr (fun n => by simp)
        rw [Bool.and_eq_true, Bool.and_eq_true] at hc
        have c1 := Nat.le_of_ble_eq_true hc.1.1
        have c2 := Nat.le_of_ble_eq_true hc.1.2
        have hB : hasB P g = true := by unfold hasB; rw [hf]; simp only [hb]; rw [hc.2]; rfl
        intro σ w L args hv hH hown hnd
        have hlen := hv.length
        refine .inl ⟨hasB_ok hB, Ctr.intro hf hb rfl (by omega) hown hnd ?_⟩
        have hE : ER σ fn.ntmps (envFrom vs 0 noEnv) (envOf args) := er_args hv c1 c2
        have main : ∀ e env1 h1 nx1 dd1, evC P fn.ntmps false x ih (envFrom vs 0 noEnv) h nx [] = .C e env1 h1 nx1 dd1 → (e = .n ∨ e = .r) → leaveF P fn ih (.C .n env1 h1 nx1 dd1) = .F v h' nx' →
            X ⟨P, none, fn.ntmps, w, keys L, false⟩ [.code x] (RetQ ⟨P, none, fn.ntmps, w, keys L, false⟩ fn fun x L' => ∃ σ', Sg.le σ σ' ∧ okV σ' v x ∧ HR σ' nx' h' L') (envOf args) [] L := by
          intro e env1 h1 nx1 dd1 g1 he g2
          have g2' : (match leaveD P ih dd1 h1 nx1 with
            | some (h, nx) => (match (resL P fn.ntmps env1 h fn.results.toList).bind packV with | some v => Rs.F v h nx | none => .bad 51)
            | none => .bad 52) = .F v h' nx' := g2
          split at g2'
          rotate_left
          · cases g2'
          rename_i h2 nx2 g3
          split at g2'
          rotate_left
          · cases g2'
          rename_i v2 g4
          injection g2' with e1 e2 e3; subst e1 e2 e3
          obtain ⟨vs2, g5, g6⟩ := obind g4
          have := evC_ok hS (opSnd hS) hD (rfSnd hS) fn.ntmps false x _ _ _ _ _ _ _ _ _ g1 ⟨P, none, fn.ntmps, w, keys L, false⟩ σ _ [] L rfl rfl rfl rfl hE hH trivial
          refine W.mono this.toW ?_
          rintro e' ρ' ds' L' ⟨rfl, σ', z1, z2, z3, z4⟩
          have fin : ∀ w1, St w (keys L) w1 L' → LeavesInM (FR none) 0 P fn (act fn.ntmps ρ' ds').tmps (fun e w' => ∃ v L', e = .returned v ∧ St w (keys L) w' L' ∧ ∃ σ', Sg.le σ σ' ∧ okV σ' v2 v ∧ HR σ' nx2 h2 L') ds' .returning w1 := by
            intro w1 hw1
            refine leaveD_ok (c := ⟨P, none, fn.ntmps, w, keys L, false⟩) (σ₀ := σ') (R := fun x L' => ∃ σ', Sg.le σ σ' ∧ okV σ' v2 x ∧ HR σ' nx2 h2 L') hS hD rfl g3 (Sg.le.refl σ') z4 z3 (fun σ2 L2 y1 y2 => ?_) w1 hw1
            obtain ⟨x, y3, y4⟩ := results_ok (P := P) (w0 := w) (B := keys L) (fn := fn) (z2.mono y1) y2 g5 g6 ds'
            exact ⟨x, y4, σ2, z1.trans y1, y3, y2⟩
          rcases he with rfl | rfl
          · exact fin
          · exact fin
        cases hx : evC P fn.ntmps false x ih (envFrom vs 0 noEnv) h nx [] with
        | bad n => rw [hx] at hr; cases hr
        | F => rw [hx] at hr; cases hr
        | C e env1 h1 nx1 dd1 =>
          rw [hx] at hr
          cases e with
          | n => exact main _ _ _ _ _ hx (.inl rfl) hr
          | r => exact main _ _ _ _ _ hx (.inr rfl) hr
          | x id => cases hr
      · rename_i hb; exact hX g fn _ _ _ _ _ _ hf hb hr
    · cases hr
theorem runK_ok (hX : ExtOk P clone cmpB) (hM : MemoOk P mo) (hD : ∀ ih, Snd P ih → DrawSnd P ih) : ∀ k, Snd P (runK P clone cmpB mo k)
  | 0 => { fn := by intro g vs h nx v h' nx' hr; exact absurd (show Rs.bad 59 = _ from hr) (by simp), cd := by intro n q x env h nx dd e env' h' nx' dd' hr; exact absurd (show Rs.bad 59 = _ from hr) (by simp) }
  | k + 1 => by
    have ih := runK_ok hX hM hD k
    exact ⟨fun g vs h nx v h' nx' hr => fn_ok hX hM ih (hD _ ih) hr, fun n q x env h nx dd e env' h' nx' dd' hr => evC_ok ih (opSnd ih) (hD _ ih) (rfSnd ih) n q x _ _ _ _ _ _ _ _ _ hr⟩
end
end Go.Proofs.YtpcdcemcjbeajaaGreatDoor
set_option linter.unusedVariables false
set_option linter.unusedSimpArgs false
namespace Go.Proofs.YtpcdcemcjbeajaaGreatDoor
open Go.RowKit
def byts (l : List Nat) : ByteArray := ⟨(l.map UInt8.ofNat).toArray⟩
theorem byts_get (l : List Nat) (i : Nat) : (byts l)[i]! = ((l.map UInt8.ofNat)[i]?).getD 0 := by
  unfold byts
  by_cases h : i < l.length
  · rw [getElem!_pos _ _ (by simpa [ByteArray.size] using h)]
    simp [ByteArray.getElem_eq_getElem_data, h]
  · rw [getElem!_neg _ _ (by simpa [ByteArray.size] using h)]
    simp [Nat.not_lt.1 h]; rfl
theorem byts_size (l : List Nat) : (byts l).size = l.length := by simp [byts, ByteArray.size]
theorem cmp_cons (a b : Nat) (l m : List Nat) : Extern.BytealgCompare.cmp (byts (a :: l)) (byts (b :: m)) = if UInt8.ofNat a = UInt8.ofNat b then Extern.BytealgCompare.cmp (byts l) (byts m) else if UInt8.ofNat a < UInt8.ofNat b then -1 else 1 := by
  unfold Extern.BytealgCompare.cmp
  have hm : min (byts (a :: l)).size (byts (b :: m)).size = min (byts l).size (byts m).size + 1 := by simp only [byts_size, List.length_cons]; omega
  rw [hm, List.range_succ_eq_map, List.find?_cons]
  have h0 : (byts (a :: l))[0]! = UInt8.ofNat a := by rw [byts_get]; rfl
  have h0' : (byts (b :: m))[0]! = UInt8.ofNat b := by rw [byts_get]; rfl
  have hs : ∀ i, (byts (a :: l))[i + 1]! = (byts l)[i]! := fun i => by rw [byts_get, byts_get]; rfl
  have hs' : ∀ i, (byts (b :: m))[i + 1]! = (byts m)[i]! := fun i => by rw [byts_get, byts_get]; rfl
  rw [h0, h0']
  by_cases e : UInt8.ofNat a = UInt8.ofNat b
  · rw [if_pos e]
    have e1 : (UInt8.ofNat a != UInt8.ofNat b) = false := by simp [e]
    rw [e1]
    simp only [List.find?_map]
    have e2 : ((fun i => (byts (a :: l))[i]! != (byts (b :: m))[i]!) ∘ Nat.succ) = fun i => (byts l)[i]! != (byts m)[i]! := by
      funext i; simp only [Function.comp, Nat.succ_eq_add_one, hs, hs']
    rw [e2]
    cases h : List.find? (fun i => (byts l)[i]! != (byts m)[i]!) (List.range (min (byts l).size (byts m).size)) with
    | none => simp only [Option.map_none, byts_size, List.length_cons]; congr 1 <;> simp
    | some i => simp only [Option.map_some, Nat.succ_eq_add_one, hs, hs']
  · rw [if_neg e]
    have e1 : (UInt8.ofNat a != UInt8.ofNat b) = true := by simp [e]
    rw [e1]
    simp only [h0, h0']
theorem cmp_nat : ∀ (l m : List Nat), (∀ x ∈ l, x < 256) → (∀ x ∈ m, x < 256) → Extern.BytealgCompare.cmp (byts l) (byts m) = cmpL l m
  | [], [], _, _ => rfl
  | [], b :: m, _, _ => by simp [Extern.BytealgCompare.cmp, byts_size, cmpL]
  | a :: l, [], _, _ => by simp [Extern.BytealgCompare.cmp, byts_size, cmpL]
  | a :: l, b :: m, h1, h2 => by
    have ha := h1 a (by simp)
    have hb := h2 b (by simp)
    rw [cmp_cons, cmp_nat l m (fun x hx => h1 x (by simp [hx])) (fun x hx => h2 x (by simp [hx]))]
    have e1 : (UInt8.ofNat a).toNat = a := by simp [UInt8.toNat_ofNat']; omega
    have e2 : (UInt8.ofNat b).toNat = b := by simp [UInt8.toNat_ofNat']; omega
    show _ = cond (Nat.beq a b) (cmpL l m) (cond (Nat.blt a b) (-1) 1)
    by_cases e : a = b
    · subst e; simp
    · have : UInt8.ofNat a ≠ UInt8.ofNat b := fun h => e (by rw [← e1, ← e2, h])
      rw [if_neg this, beq_ne e]
      by_cases hlt : a < b
      · rw [blt_true hlt]
        have : UInt8.ofNat a < UInt8.ofNat b := by rw [UInt8.lt_iff_toNat_lt, e1, e2]; exact hlt
        rw [if_pos this]; rfl
      · rw [blt_false hlt]
        have : ¬ UInt8.ofNat a < UInt8.ofNat b := by rw [UInt8.lt_iff_toNat_lt, e1, e2]; exact hlt
        rw [if_neg this]; rfl
structure ExtIs (P : Program) (f : FuncId) (e : Array Value → Sem Value) : Prop where
  ex : ∃ fn, P.funcs[f]? = some fn ∧ fn.name ≠ "runtime.NumGoroutine" ∧ fn.body = none ∧ Extern.findNext fn = none ∧ Extern.find fn = some e
theorem ExtIs.run {P : Program} {f : FuncId} {e : Array Value → Sem Value} (h : ExtIs P f e) (args : Array Value) (w : World) : (callFunc f args).run P w = ((e args).run P w).andThen fun v w => .ok (.value v) w := by
  obtain ⟨fn, h1, h2, h3, h4, h5⟩ := h.ex
  simp [callFunc, Sem.run_bind, h1, h2, h3, h4, h5, mark, Sem.run]
section
variable {P : Program} {w0 : World} {B : List Nat} {σ : Sg} {nx : Nm} {h : Hp} {L : List Ent}
theorem bytes_cells {l : List S} {ns : List Nat} : ∀ {l : List S} {ns : List Nat} {vs : List Value}, l.mapM (fun s => match s with | .i .u8 (.ofNat n) => cond (Nat.blt n 256) (some n) none | _ => none) = some ns → All2 (okS σ) l vs → (∀ x ∈ ns, x < 256) ∧ vs = ns.map fun (n : Nat) => .int .u8 (n : Int)
  | [], ns, [], h, _ => by simp at h; subst h; simp
  | s :: l, ns, v :: vs, h, hv => by
    rw [List.mapM_cons] at h
    obtain ⟨n, h1, h2⟩ := obind h
    obtain ⟨ns', h3, h4⟩ := obind h2
    injection h4 with h4; subst h4
    obtain ⟨h5, h6⟩ := bytes_cells (ns := []) (l := []) h3 hv.2
    split at h1
    · rename_i q
      cases hb : Nat.blt q 256 with
      | false => rw [hb] at h1; cases h1
      | true =>
        rw [hb] at h1; injection h1 with h1; subst h1
        cases (show v = .int .u8 _ from hv.1)
        subst h6
        refine ⟨fun x hx => ?_, rfl⟩
        rcases List.mem_cons.1 hx with rfl | hx
        · exact blt_lt hb
        · exact h5 x hx
    · cases h1
  | [], _, _ :: _, _, h => h.elim
  | _ :: _, _, [], _, h => h.elim
theorem load_bytes {w : World} {b : Nat} : ∀ (ns : List Nat) (o : Nat) (acc : List Nat), CellsAt w b o (ns.map fun (n : Nat) => .int .u8 (n : Int)) → (Extern.Bytes.loadBytes ⟨b, o, none⟩ ns.length (byts acc)).run P w = .ok (byts (acc ++ ns)) w
  | [], o, acc, _ => by simp [Extern.Bytes.loadBytes]
  | n :: ns, o, acc, h => by
    have h0 : w.cell? ⟨b, o, none⟩ = some (.int .u8 (n : Int)) := by
      have := h 0 _ rfl
      simpa using this
    have h1 : (load ⟨b, o, none⟩).run P w = .ok (.int .u8 (n : Int)) w := by simp [load, Sem.run, h0]
    have h2 := load_bytes ns (o + 1) (acc ++ [n]) (fun j v hv => by
      have := h (j + 1) v (by simpa using hv)
      rw [show o + 1 + j = o + (j + 1) by omega]; exact this)
    simp only [List.length_cons, Extern.Bytes.loadBytes, Sem.run_bind, h1, Result.andThen_ok]
    have e : (byts acc).push ((n : Int).toNat.toUInt8) = byts (acc ++ [n]) := by simp [byts, ByteArray.push]
    rw [e, addr_add, h2]
    simp
theorem bytesV_ok {v : V} {ns : List Nat} {u : Value} (hH : HR σ nx h L) (hb : bytesV h v = some ns) (ho : okV σ v u) : (∀ x ∈ ns, x < 256) ∧ ∀ w, St w0 B w L → (Extern.Bytes.bytesOf u).run P w = .ok (byts ns) w := by
  unfold bytesV at hb
  split at hb
  · rename_i m l h1
    unfold rdS at h1
    split at h1
    · injection h1 with h1; injection h1 with e1 e2; subst e1 e2
      simp at hb; subst hb
      cases (show u = .slice none 0 0 from ho)
      exact ⟨by simp, fun w _ => by simp [Extern.Bytes.bytesOf]; rfl⟩
    · injection h1 with h1; injection h1 with e1 e2; subst e1 e2
      simp at hb; subst hb
      obtain ⟨a, c, rfl⟩ := (show okX σ .se u from ho)
      exact ⟨by simp, fun w _ => by simp [Extern.Bytes.bytesOf, Extern.Bytes.loadBytes]; rfl⟩
    · rename_i nm o len _ _
      split at h1
      · rename_i q rr nn ks h2
        split at h1
        · rename_i l' h3
          injection h1 with h1; injection h1 with e1 e2; subst e1 e2
          obtain ⟨bb, cp, cc, h4, rfl, _, _⟩ := okV_l ho
          obtain ⟨b', c', vs, junk, h5, h6, h7, _⟩ := cells_of hH h2
          rw [h4] at h5; injection h5 with h5; injection h5 with e1 e2; subst e1
          obtain ⟨h8, h9⟩ := cut_ok h3
          have h10 : All2 (okS σ) l' ((vs.drop o).take (len * 1)) := by rw [h8]; exact (h7.drop o).take _
          obtain ⟨h11, h12⟩ := bytes_cells (ns := []) (l := []) hb h10
          refine ⟨h11, fun w hw => ?_⟩
          have h13 := cells_cut (o := o) (m := len * 1) hw h6
          rw [h12] at h13
          have h14 := load_bytes (P := P) ns o [] h13
          have h15 : ns.length = len := by
            have := congrArg List.length h12
            rw [← h10.length] at this
            simp at this
            have h9' : l'.length = len * 1 := h9
            omega
          rw [h15] at h14
          exact h14
        · cases h1
      · cases h1
    · cases h1
  · cases hb
theorem extOk {clone cmpB : FuncId} (h1 : ExtIs P clone Extern.MapsClone.clone) (h2 : ExtIs P cmpB Extern.BytealgCompare.compare) : ExtOk P clone cmpB := by
  intro g fn vs h nx v h' nx' hf hb hr σ w L args hv hH hown hnd
  unfold extF at hr
  have hst : St w (keys L) w L := St.init hown hnd
  cases hc : Nat.beq g clone with
  | true =>
    rw [hc] at hr
    have := Nat.eq_of_beq_eq_true hc; subst this
    simp only [cond_true] at hr
    split at hr
    · rename_i t m
      split at hr
      · rename_i es clk hm
        obtain ⟨nx1, hx, hr⟩ := newK_ok hr (fun n => by simp)
        injection hr with e1 e2 e3; subst e1 e2 e3
        cases args with
        | nil => exact hv.elim
        | cons a args =>
          cases args with
          | cons => exact hv.2.elim
          | nil =>
            obtain ⟨b, cc, g1, rfl⟩ := (show okX σ (.im t m) a from hv.1)
            obtain ⟨l, g2, g3⟩ := map_of hH hm g1
            have hob := hown _ g3
            obtain ⟨k1, k2⟩ := hH.new hx (b := w.heap.size) (cap := 0) (o := .m es clk) (ob := .map l.toArray clk) (fun p hp e => by have := hst.lt hp; omega) ⟨l, g2, rfl⟩
            refine .inr ⟨.iface t (.map (some w.heap.size)), w.alloc (.map l.toArray clk), _, ?_, hst.alloc _, _, k1, ⟨_, _, Sg.ext_same _ _, rfl⟩, k2⟩
            rw [h1.run]
            show (Result.andThen ((do
              let .map entries clock ← getObj b | stuck "maps.clone: a map expected"
              pure (.iface t (.map (some (← newObj (.map entries clock))))) : Sem Value).run P w) _) = _
            simp [Sem.run_bind, getObj_ok hob (by simp)]
      · cases hr
    · cases hr
  | false =>
    rw [hc] at hr
    cases hc2 : Nat.beq g cmpB with
    | false => rw [hc2] at hr; cases hr
    | true =>
      rw [hc2] at hr
      have := Nat.eq_of_beq_eq_true hc2; subst this
      simp only [cond_true, cond_false] at hr
      split at hr
      · rename_i a b
        split at hr
        · rename_i na nb g1 g2
          injection hr with e1 e2 e3; subst e1 e2 e3
          cases args with
          | nil => exact hv.elim
          | cons ua args =>
            cases args with
            | nil => exact hv.2.elim
            | cons ub args =>
              cases args with
              | cons => exact hv.2.2.elim
              | nil =>
                obtain ⟨k1, k2⟩ := bytesV_ok (P := P) (w0 := w) (B := keys L) hH g1 hv.1
                obtain ⟨k3, k4⟩ := bytesV_ok (P := P) (w0 := w) (B := keys L) hH g2 hv.2.1
                refine .inr ⟨.int .i64 (cmpL na nb), w, L, ?_, hst, σ, Sg.le.refl σ, rfl, hH⟩
                rw [h2.run]
                show (Result.andThen ((do pure (goInt (Extern.BytealgCompare.cmp (← Extern.Bytes.bytesOf ua) (← Extern.Bytes.bytesOf ub))) : Sem Value).run P w) _) = _
                simp [Sem.run_bind, k2 w hst, k4 w hst, cmp_nat na nb k1 k3, goInt]
        · cases hr
      · cases hr
end
end Go.Proofs.YtpcdcemcjbeajaaGreatDoor
