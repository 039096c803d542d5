/- WholeFar: SymRange, SymMore, SymAny, SymSet, SymPtr. -/
import Derived.OrdersIn
import Derived.RangeFuncNested
import Derived.Test.YtpcdcemcjbeajaaGreatDoorWf01
section
set_option linter.unusedVariables false
set_option linter.unusedSimpArgs false
namespace Go.Proofs.YtpcdcemcjbeajaaGreatDoor
open Go.RowKit
def YieldC (P : Program) (l : Nat) (args : List Value) (w : World) (LJ : List Ent) (R : Bool → List Ent → Prop) : Prop :=
  ∃ fn tmps assign body, (Instr.yield l args.toArray).run P w = .ok (.round l fn tmps assign body) w ∧
    RoundIn (FR none) 0 P l fn tmps assign body w fun e w' => ∃ b L', e = .returned (.bool b) ∧ St w (keys LJ) w' L' ∧ R b L'
def Iter {α : Type} (P : Program) (gf : FuncId) (lb : List Value) (encs : α → List Value) (Full : List α) (Av : List Nat) (w : World) : Prop :=
  ∀ (l : Nat) (LJ : List Ent) (J Jx : List α → List Ent → Prop), (∀ p ∈ LJ, w.heap[p.1]? = some p.2) → (keys LJ).Nodup → (∀ k ∈ Av, k ∉ keys LJ) → J [] LJ →
    (∀ pre x rest LJ' Lo w1, Full = pre ++ x :: rest → J pre LJ' → St w (keys LJ) w1 (LJ' ++ Lo) →
      YieldC P l (encs x) w1 LJ' fun b L' => (b = true ∧ J (pre ++ [x]) L') ∨ (b = false ∧ Jx (pre ++ [x]) L')) →
    Ctr P gf (.func (.yield l) #[] #[] :: lb) w LJ fun _ L' => ∃ LJ' Lo, L' = LJ' ++ Lo ∧ (J Full LJ' ∨ ∃ pre x rest, Full = pre ++ x :: rest ∧ Jx (pre ++ [x]) LJ')
section
variable {c : Cx} {Qp : Po} {K : Ko} {ρ : Env} {ds : Ds} {L : List Ent} {ol rest : List Oper}
variable {d : Option Nat} {ty : TypeId} {pos : String} {af : Array Edge} {g : Option (Nat × Bool)}
theorem RL.yield {l : Nat} {vals : List Value} {LJ Lo : List Ent} {R : Bool → List Ent → Prop} {cal : Operand} {xs : Array Operand} {ts : Array TypeId} (hq : c.q = false) (hw : wantE c.n ol ρ ⟨d, .call ⟨.value cal, xs, ts⟩, ty, pos, af, g⟩ = true)
    (hf : evE c.n ρ cal = .func (.yield l) #[] #[]) (hL : L.Perm (LJ ++ Lo)) (hc : ∀ w, St c.w0 c.S w (LJ ++ Lo) → YieldC c.P l vals w LJ R) (ha : argsE c.n ρ xs = vals)
    (h : ∀ b L', R b L' → RL c ol rest K Qp (updO ρ d (.bool b)) ds (L' ++ Lo)) : RL c ol (⟨d, .call ⟨.value cal, xs, ts⟩, ty, pos, af, g⟩ :: rest) K Qp ρ ds L := by
  refine RL.round (l := l) (fn := 0) (tmps := #[]) (assign := .skip) (body := .skip) hq hw rfl fun w hst => ?_
  have hst' := hst.perm hL.symm
  obtain ⟨fn, tmps, assign, body, hy, hr⟩ := hc w hst'
  refine ⟨l, fn, tmps, assign, body, ?_, hr.mono ?_⟩
  · subst ha
    have : (execOp (evE c.n ρ) ⟨d, .call ⟨.value cal, xs, ts⟩, ty, pos, af, g⟩).run c.P w = (Instr.yield l (argsE c.n ρ xs).toArray).run c.P w := by
      simp [execOp, resolve, Deferred.ofValue, hf, invoke, Sem.run_bind, argsE, ← Array.toList_map]
    rw [this]; exact hy
  · rintro e w' ⟨b, L', rfl, h2, h3⟩
    exact ⟨_, L' ++ Lo, rfl, hst'.comp h2, h b L' h3⟩
end
def updP (ρ : Env) : List Nat → List Value → Env
  | p :: ps, v :: vs => updP (upd ρ p v) ps vs
  | _, _ => ρ
theorem act_params (n : Nat) (ds : Ds) : ∀ (ps : List Nat) (vs : List Value) (ρ : Env), (ps.zip vs).foldl (fun t (p : Nat × Value) => t.setIfInBounds p.1 p.2) (act n ρ ds).tmps = (act n (updP ρ ps vs) ds).tmps
  | [], vs, ρ => by simp [updP]
  | p :: ps, [], ρ => by simp [updP]
  | p :: ps, v :: vs, ρ => by
    simp only [List.zip_cons_cons, List.foldl_cons, updP]
    have := congrArg Act.tmps (act_put n ρ ds (some p) v)
    simp only [Act.put, updO] at this
    rw [this]
    exact act_params n ds ps vs _
def exCode : Exit → Code
  | .ret => .ret
  | .exit id => .exit id
  | .goto t => .goto t
  | _ => .skip
def exJump : Exit → Option Code
  | .normal => none
  | e => some (exCode e)
def RoundQ (I : List Ent → Prop) (Ix : Exit → List Ent → Prop) : Po := fun e _ _ L =>
  match e with
  | .normal => ∃ L', L'.Sublist L ∧ I L'
  | .ret => ∃ L', L'.Sublist L ∧ Ix .ret L'
  | .exit id => ∃ L', L'.Sublist L ∧ Ix (.exit id) L'
  | _ => False
theorem St.putObj {w0 w : World} {S : List Nat} {L1 L2 : List Ent} {b : Nat} {o : Obj} (h : St w0 S w (L1 ++ (b, o) :: L2)) (o' : Obj) : St w0 S (w.putObj b o') (L1 ++ (b, o') :: L2) := h.put o' rfl rfl rfl rfl
theorem yield_of_body {P : Program} {n l : Nat} {fn : Nat} {ρ : Env} {ds : Ds} {ps : Array Nat} {assign body : Code} {args : List Value} {w : World} {dfs : Nat} {Lx LB : List Ent} {I : List Ent → Prop} {Ix : Exit → List Ent → Prop} {Bd : Env → List Ent → Prop}
    (hown : ∀ p ∈ (l, Obj.loop { state := .ready, pending := none, fn, tmps := (act n ρ ds).tmps, params := ps, assign, body, defers := dfs }) :: (Lx ++ LB), w.heap[p.1]? = some p.2) (hnd : (keys ((l, Obj.loop { state := .ready, pending := none, fn, tmps := (act n ρ ds).tmps, params := ps, assign, body, defers := dfs }) :: (Lx ++ LB))).Nodup)
    (hsz : args.length = ps.size)
    (hassign : X ⟨P, some l, n, w, keys LB, false⟩ [.code assign, .hyp (fun ρ2 ds2 L2 => ds2 = [] ∧ Bd ρ2 L2)] (fun _ _ _ _ => False) (updP ρ ps.toList args) [] LB)
    (hbody : ∀ ρ2 L2 w2, Bd ρ2 L2 → St w (keys ((l, Obj.loop { state := .ready, pending := none, fn, tmps := (act n ρ ds).tmps, params := ps, assign, body, defers := dfs }) :: (Lx ++ LB))) w2 (L2 ++ (l, Obj.loop { state := .busy, pending := none, fn, tmps := (act n ρ ds).tmps, params := ps, assign, body, defers := dfs }) :: Lx) →
      X ⟨P, some l, n, w2, keys L2, false⟩ [.code body] (RoundQ I Ix) ρ2 [] L2) :
    YieldC P l args w ((l, Obj.loop { state := .ready, pending := none, fn, tmps := (act n ρ ds).tmps, params := ps, assign, body, defers := dfs }) :: (Lx ++ LB)) fun b L' => ∃ LB', (∃ e, (b = true ∧ e = Exit.normal ∧ I LB' ∨ b = false ∧ (e = .ret ∨ ∃ id, e = .exit id) ∧ Ix e LB') ∧
      L' = (l, Obj.loop { state := if (exJump e).isNone then .ready else .done, pending := exJump e, fn, tmps := (act n ρ ds).tmps, params := ps, assign, body, defers := dfs }) :: (Lx ++ LB')) := by
  obtain ⟨rec, hrec⟩ : ∃ rec : LoopState → Option Code → Loop, rec = fun st pe => { state := st, pending := pe, fn, tmps := (act n ρ ds).tmps, params := ps, assign, body, defers := dfs } := ⟨_, rfl⟩
  have hl : w.heap[l]? = some (.loop (rec .ready none)) := by rw [hrec]; exact hown _ (List.mem_cons_self)
  have hst0 : St w (keys ((l, Obj.loop (rec .ready none)) :: (Lx ++ LB))) w ((l, Obj.loop (rec .ready none)) :: (Lx ++ LB)) := by
    rw [hrec]; exact St.init hown hnd
  have hy := run_yield (P := P) (args := args.toArray) hl (by rw [hrec]; simpa using hsz)
  have htm : (ps.zip args.toArray).foldl (fun tmps (x : Nat × Value) => tmps.setIfInBounds x.1 x.2) (act n ρ ds).tmps = (act n (updP ρ ps.toList args) []).tmps := by
    rw [← Array.foldl_toList, Array.toList_zip]
    exact act_params n ds ps.toList args ρ
  refine ⟨fn, (act n (updP ρ ps.toList args) []).tmps, assign, body, ?_, ?_⟩
  · rw [hy, hrec]; simp only []; rw [← htm]
  refine roundIn_of_wpIn (F := FR none) trivial ?_
  have hLB : ∀ p ∈ LB, w.heap[p.1]? = some p.2 := fun p hp => hown p (List.mem_cons_of_mem _ (List.mem_append_right _ hp))
  have hndB : (keys LB).Nodup := by
    have : (keys LB).Sublist (keys ((l, Obj.loop (rec .ready none)) :: (Lx ++ LB))) := ((List.sublist_append_right Lx LB).cons _).map _
    rw [hrec] at this
    exact hnd.sublist this
  have ha := hassign w (St.init hLB hndB)
  refine wpIn_mono ha ?_
  rintro e a w1 ⟨ρ2, ds2, L2, rfl, hst2, hq⟩
  cases e with
  | normal =>
    obtain ⟨rfl, hbd⟩ := hq
    have hp1 : ((l, Obj.loop (rec .ready none)) :: (Lx ++ LB)).Perm (LB ++ (l, Obj.loop (rec .ready none)) :: Lx) := by
      refine List.Perm.trans ?_ List.perm_append_comm
      simp
    have hst1 : St w (keys ((l, Obj.loop (rec .ready none)) :: (Lx ++ LB))) w1 (L2 ++ (l, Obj.loop (rec .ready none)) :: Lx) := (hst0.perm hp1.symm).comp hst2
    have hl1 : w1.heap[l]? = some (.loop (rec .ready none)) := hst1.own (l, _) (by simp)
    refine ⟨_, run_beginRound hl1 (by rw [hrec]), ?_⟩
    have hstb := hst1.putObj (.loop { rec .ready none with state := .busy })
    obtain ⟨w2, hw2⟩ : ∃ w2, w1.putObj l (.loop { rec .ready none with state := .busy }) = w2 := ⟨_, rfl⟩
    rw [hw2] at hstb ⊢
    have hL2 : ∀ p ∈ L2, w2.heap[p.1]? = some p.2 := fun p hp => hstb.own p (List.mem_append_left _ hp)
    have hnd2 : (keys L2).Nodup := hstb.nodup.sublist ((List.sublist_append_left _ _).map _)
    have hb := hbody ρ2 L2 w2 hbd (by rw [hrec] at hstb; exact hstb) w2 (St.init hL2 hnd2)
    refine wpIn_mono hb ?_
    rintro e a w3 ⟨ρ3, ds3, L3, rfl, hst3, hq3⟩
    have hst4 := hstb.comp hst3
    have hl3 : w3.heap[l]? = some (.loop { rec .ready none with state := .busy }) := hst4.own (l, _) (by simp)
    have fin : ∀ (L' : List Ent) (o : Obj), L'.Sublist L3 → St w (keys ((l, Obj.loop (rec .ready none)) :: (Lx ++ LB))) (w3.putObj l o) ((l, o) :: (Lx ++ L')) := by
      intro L' o hs
      have h5 := (hst4.putObj o).sub (hs.append_right ((l, o) :: Lx))
      refine h5.perm ?_
      refine List.Perm.trans ?_ List.perm_append_comm
      simp
    rw [hrec] at fin hl3
    cases e with
    | normal =>
      obtain ⟨L', hs, hi⟩ := hq3
      exact ⟨_, _, run_endRound none hl3, true, _, rfl, fin L' _ hs, L', .normal, .inl ⟨rfl, rfl, hi⟩, rfl⟩
    | ret =>
      obtain ⟨L', hs, hi⟩ := hq3
      exact ⟨_, _, run_endRound (some .ret) hl3, false, _, rfl, fin L' _ hs, L', .ret, .inr ⟨rfl, .inl rfl, hi⟩, rfl⟩
    | exit id =>
      obtain ⟨L', hs, hi⟩ := hq3
      exact ⟨_, _, run_endRound (some (.exit id)) hl3, false, _, rfl, fin L' _ hs, L', .exit id, .inr ⟨rfl, .inr ⟨id, rfl⟩, hi⟩, rfl⟩
    | goto t => exact hq3.elim
    | panic ch => exact hq3.elim
    | outgrown => exact hq3.elim
  | _ => exact hq.elim
theorem perm_r1 (a b : Ent) (B Lo Lr : List Ent) : (B ++ (Lr ++ (Lo ++ [a, b]))).Perm ((a :: ([b] ++ B) ++ Lo) ++ Lr) := by
  have e : ((a :: ([b] ++ B) ++ Lo) ++ Lr : List Ent) = [a, b] ++ (B ++ (Lo ++ Lr)) := by simp
  rw [e]
  refine List.Perm.trans ?_ List.perm_append_comm
  rw [List.append_assoc B, ← List.append_assoc Lr]
  exact List.Perm.append_left _ (List.Perm.append_right _ List.perm_append_comm)
theorem perm_r2 (a b : Ent) (L2 Lo Lr : List Ent) : (L2 ++ (Lr ++ (Lo ++ [a, b]))).Perm ((L2 ++ a :: [b]) ++ (Lo ++ Lr)) := by
  rw [List.append_assoc]
  refine List.Perm.append_left _ ?_
  refine List.Perm.trans ?_ List.perm_append_comm
  rw [← List.append_assoc Lr]
  exact List.Perm.append_right _ List.perm_append_comm
theorem exJump_out {e : Exit} (h : e = .ret ∨ ∃ id, e = .exit id) : exJump e = some (exCode e) := by
  rcases h with rfl | ⟨id, rfl⟩ <;> rfl
section
variable {c : Cx} {k : List KI} {Q : Po} {ρ : Env} {ds : Ds} {L : List Ent}
theorem X.rangeFunc {α : Type} {g : Operand} {ps : Array Nat} {assign body : Code} {gf : Nat} {lb : List Value} {encs : α → List Value} {Full : List α} {Av : List Nat} {LB Lr : List Ent} (I : List α → List Ent → Prop) (Ix : Exit → List α → List Ent → Prop) (Bd : List α → α → Env → List Ent → Prop)
    (hro : c.rd = none) (hg : evE c.n ρ g = .func (.func gf) #[] lb.toArray) (he : ∀ args w, (callFunc gf args).run c.P w = .ok (.enter gf args) w) (hL : L.Perm (LB ++ Lr))
    (hit : ∀ w Lm, St c.w0 c.S w (Lm ++ (LB ++ Lr)) → Iter c.P gf lb encs Full Av w) (hAv : ∀ k ∈ Av, k ∉ keys LB ∧ (k < c.w0.heap.size ∨ k ∈ keys Lr)) (hps : ∀ x, (encs x).length = ps.size) (h0 : I [] LB)
    (hassign : ∀ pre x rest LB' w l, Full = pre ++ x :: rest → I pre LB' → (∃ Lo, St c.w0 c.S w (LB' ++ (Lr ++ Lo))) → X ⟨c.P, some l, c.n, w, keys LB', false⟩ [.code assign, .hyp (fun ρ2 ds2 L2 => ds2 = [] ∧ Bd pre x ρ2 L2)] (fun _ _ _ _ => False) (updP ρ ps.toList (encs x)) [] LB')
    (hbody : ∀ pre x rest ρ2 L2 w2 l, Full = pre ++ x :: rest → Bd pre x ρ2 L2 → (∃ Lo, St c.w0 c.S w2 (L2 ++ (Lr ++ Lo))) → l ∉ keys L2 → (∃ r, w2.heap[l]? = some (.loop r)) →
      X ⟨c.P, some l, c.n, w2, keys L2, false⟩ [.code body] (RoundQ (I (pre ++ [x])) (fun e => Ix e (pre ++ [x]))) ρ2 [] L2)
    (hdone : ∀ LB' D, I Full LB' → X c k Q ρ ({ target := .collected D, args := #[] } :: ds) ((D, .deferred (some [])) :: (LB' ++ Lr)))
    (hstop : ∀ e pre x rest LB' D, Full = pre ++ x :: rest → (e = .ret ∨ ∃ id, e = .exit id) → Ix e (pre ++ [x]) LB' → X c (.code (exCode e) :: k) Q ρ ({ target := .collected D, args := #[] } :: ds) ((D, .deferred (some [])) :: (LB' ++ Lr))) :
    X c (.code (.rangeFunc g ps assign body) :: k) Q ρ ds L := by
  intro w hst0
  have hst := hst0.perm hL.symm
  refine wpIn_rangeFunc ?_
  intro fn hfn
  have hrd : (FR c.rd).round = none := by rw [hro]; rfl
  rw [hrd]
  obtain ⟨rec, hrec⟩ : ∃ rec : LoopState → Option Code → Loop, rec = fun st pe => { state := st, pending := pe, fn, tmps := (act c.n ρ ds).tmps, params := ps, assign, body, defers := w.heap.size } := ⟨_, rfl⟩
  obtain ⟨W1, hW1⟩ : ∃ W1, (w.alloc (.deferred (some []))).alloc (.loop (rec .ready none)) = W1 := ⟨_, rfl⟩
  have hstW : St c.w0 c.S W1 ((w.heap.size + 1, Obj.loop (rec .ready none)) :: ((w.heap.size, Obj.deferred (some [])) :: (LB ++ Lr))) := by
    rw [← hW1]
    have := (hst.alloc (.deferred (some []))).alloc (.loop (rec .ready none))
    rwa [World.size_alloc] at this
  have hlt : ∀ p ∈ LB ++ Lr, p.1 < w.heap.size := fun p hp => hst.lt hp
  refine ⟨w.heap.size + 1, [{ target := .collected w.heap.size, args := #[] }], W1, { target := .fn (.func gf) lb.toArray, args := #[.func (.yield (w.heap.size + 1)) #[] #[]] }, W1, gf,
    #[.func (.yield (w.heap.size + 1)) #[] #[]] ++ lb.toArray, W1, ?_, ?_, ?_, ?_, FR_depth _, ?_⟩
  · rw [← hW1, hrec]; exact run_enterLoop_outer _ _ _ _ _
  · rw [act_eval]; simp only [resolve, rangeCall, hg]; simp [Deferred.ofValue, evE]
  · intro f' hf'; exact FR_fn _ _
  · simp [invoke, he]
  obtain ⟨LJ, hLJ⟩ : ∃ LJ : List Ent, LJ = (w.heap.size + 1, Obj.loop (rec .ready none)) :: ([(w.heap.size, Obj.deferred (some []))] ++ LB) := ⟨_, rfl⟩
  have hstJ : St c.w0 c.S W1 (LJ ++ Lr) := by rw [hLJ]; simpa using hstW
  have hownJ : ∀ p ∈ LJ, W1.heap[p.1]? = some p.2 := fun p hp => hstJ.own p (List.mem_append_left _ hp)
  have hndJ : (keys LJ).Nodup := hstJ.nodup.sublist ((List.sublist_append_left _ _).map _)
  have hAvJ : ∀ k ∈ Av, k ∉ keys LJ := by
    intro k hk hm
    obtain ⟨h1, h2⟩ := hAv k hk
    have hkl : k < w.heap.size := by
      rcases h2 with h2 | h2
      · exact Nat.lt_of_lt_of_le h2 hst.size
      · obtain ⟨p, hp, rfl⟩ := List.mem_map.1 h2; exact hlt p (List.mem_append_right _ hp)
    rw [hLJ] at hm
    simp only [keys, List.map_cons, List.map_append, List.map_nil, List.mem_cons, List.mem_append, List.not_mem_nil, or_false] at hm
    rcases hm with hm | hm | hm
    · omega
    · omega
    · exact h1 hm
  have hcall := hit W1 [(w.heap.size + 1, Obj.loop (rec .ready none)), (w.heap.size, Obj.deferred (some []))] (by simpa using hstW) (w.heap.size + 1) LJ
    (fun pre LJ' => ∃ LB', LJ' = (w.heap.size + 1, Obj.loop (rec .ready none)) :: ([(w.heap.size, Obj.deferred (some []))] ++ LB') ∧ I pre LB')
    (fun pre LJ' => ∃ e LB', (e = Exit.ret ∨ ∃ id, e = Exit.exit id) ∧ LJ' = (w.heap.size + 1, Obj.loop (rec .done (exJump e))) :: ([(w.heap.size, Obj.deferred (some []))] ++ LB') ∧ Ix e pre LB')
    hownJ hndJ hAvJ ⟨LB, hLJ, h0⟩ ?_
  · have h1 : CallsIn (FR c.rd) 0 c.P gf (Value.func (Fn.yield (w.heap.size + 1)) #[] #[] :: lb).toArray W1 _ := hcall
    rw [show (#[Value.func (Fn.yield (w.heap.size + 1)) #[] #[]] ++ lb.toArray : Array Value) = (Value.func (Fn.yield (w.heap.size + 1)) #[] #[] :: lb).toArray from by simp]
    refine CallsIn.mono h1 ?_
    rintro e W2 ⟨v, L', rfl, hst2, LJ', Lo, rfl, hJ⟩
    have hst3 := hstJ.comp hst2
    rcases hJ with ⟨LB', rfl, hi⟩ | ⟨pre, x, rest, hF, e, LB', hex, rfl, hi⟩
    · have hl2 : W2.heap[w.heap.size + 1]? = some (.loop (rec .ready none)) := hst3.own (w.heap.size + 1, _) (by simp)
      have hr := run_endLoop (P := c.P) hl2 (by rw [hrec]; simp)
      rw [hrec] at hr
      refine ⟨none, _, hr, ⟨ρ, _, _, rfl, ?_, hdone LB' _ hi⟩⟩
      rw [hrec] at hst3
      have h4 := St.putObj (L1 := []) (by simpa using hst3) (.loop { state := .exhausted, pending := none, fn := fn, tmps := (act c.n ρ ds).tmps, params := ps, assign := assign, body := body, defers := w.heap.size })
      refine h4.sub ?_
      simp only [List.nil_append]
      refine List.Sublist.cons _ (List.Sublist.cons_cons _ ?_)
      exact (List.Sublist.refl LB').append (List.sublist_append_right Lo Lr)
    · have hl2 : W2.heap[w.heap.size + 1]? = some (.loop (rec .done (exJump e))) := hst3.own (w.heap.size + 1, _) (by simp)
      have hr := run_endLoop (P := c.P) hl2 (by rw [hrec]; simp)
      rw [hrec] at hr
      rw [exJump_out hex] at hr
      refine ⟨some (exCode e), _, hr, ?_⟩
      rw [hrec] at hst3
      have h4 := St.putObj (L1 := []) (by simpa using hst3) (.loop { state := .exhausted, pending := some (exCode e), fn := fn, tmps := (act c.n ρ ds).tmps, params := ps, assign := assign, body := body, defers := w.heap.size })
      have h5 := hstop e pre x rest LB' w.heap.size hF hex hi
      refine h5 _ (h4.sub ?_)
      simp only [List.nil_append]
      refine List.Sublist.cons _ (List.Sublist.cons_cons _ ?_)
      exact (List.Sublist.refl LB').append (List.sublist_append_right Lo Lr)
  · rintro pre x rest LJ' Lo w1 hF ⟨LB', rfl, hi⟩ hst1
    have hstc := (hstJ.comp hst1)
    have hown1 := fun p (hp : p ∈ (w.heap.size + 1, Obj.loop (rec .ready none)) :: ([(w.heap.size, Obj.deferred (some []))] ++ LB')) => hst1.own p (List.mem_append_left _ hp)
    have hnd1 : (keys ((w.heap.size + 1, Obj.loop (rec .ready none)) :: ([(w.heap.size, Obj.deferred (some []))] ++ LB'))).Nodup := hst1.nodup.sublist ((List.sublist_append_left _ _).map _)
    subst hrec
    dsimp only at hown1 hnd1 hstc ⊢
    have hy := yield_of_body (P := c.P) (n := c.n) (ρ := ρ) (ds := ds) (args := encs x) (I := I (pre ++ [x])) (Ix := fun e => Ix e (pre ++ [x])) (Bd := Bd pre x) hown1 hnd1 (hps x)
      (hassign pre x rest LB' w1 _ hF hi ⟨_, hstc.perm (perm_r1 _ _ LB' Lo Lr)⟩)
      (fun ρ2 L2 w2 hbd hst2 => by
        have h6 : St c.w0 c.S w2 _ := St.comp (Lr := Lo ++ Lr) (by simpa using hstc) hst2
        have hnl : w.heap.size + 1 ∉ keys L2 := by
          have := hst2.nodup
          rw [List.map_append, List.nodup_append] at this
          exact fun hm => this.2.2 _ hm (w.heap.size + 1) (by simp) rfl
        exact hbody pre x rest ρ2 L2 w2 (w.heap.size + 1) hF hbd ⟨_, h6.perm (perm_r2 _ _ L2 Lo Lr)⟩ hnl ⟨_, hst2.own _ (List.mem_append_right _ List.mem_cons_self)⟩)
    obtain ⟨fn', tm, as, bo, h1, h2⟩ := hy
    refine ⟨fn', tm, as, bo, h1, h2.mono ?_⟩
    rintro e W3 ⟨b, L', rfl, h3, LB'', ⟨e, h4, h5⟩⟩
    refine ⟨b, L', rfl, h3, ?_⟩
    rcases h4 with ⟨rfl, rfl, h6⟩ | ⟨rfl, hex, h6⟩
    · exact .inl ⟨rfl, LB'', h5, h6⟩
    · refine .inr ⟨rfl, e, LB'', hex, ?_, h6⟩
      rw [h5]
      rw [exJump_out hex]; rfl
end
section
variable {c : Cx} {fn : Func} {R : Value → List Ent → Prop} {ρ : Env} {L : List Ent} {D : Nat}
theorem leaves_mark {v : Value} (hv : ∀ w, St c.w0 c.S w L → (results fn (act c.n ρ []).tmps).run c.P w = .ok v w) (h : R v L) (w : World) (hw : St c.w0 c.S w ((D, .deferred (some [])) :: L)) :
    LeavesInM (FR none) 0 c.P fn (act c.n ρ [{ target := .collected D, args := #[] }]).tmps (fun e w' => ∃ v L', e = .returned v ∧ St c.w0 c.S w' L' ∧ R v L') [{ target := .collected D, args := #[] }] .returning w := by
  have h1 := St.putObj (L1 := []) (L2 := L) hw (.deferred none)
  have h2 : St c.w0 c.S (w.putObj D (.deferred none)) L := h1.sub (List.Sublist.cons _ (List.Sublist.refl _))
  refine ⟨by simp, .inl ⟨D, _, rfl, run_takeDeferred (hw.own (D, _) List.mem_cons_self), ?_⟩⟩
  exact ⟨v, hv _ h2, v, L, rfl, h2, h⟩
theorem retm1 {t : Nat} (hr : fn.results = #[.tmp t]) (h : withV (evE c.n ρ (.tmp t)) fun v => R v L) : RetQ c fn R .ret ρ [{ target := .collected D, args := #[] }] ((D, .deferred (some [])) :: L) :=
  leaves_mark (fun w _ => by rw [res1 hr]) (by rw [withV_eq] at h; exact h)
end
end Go.Proofs.YtpcdcemcjbeajaaGreatDoor
end
section
set_option linter.unusedVariables false
set_option linter.unusedSimpArgs false
namespace Go.Proofs.YtpcdcemcjbeajaaGreatDoor
open Go.RowKit
instance (priority := low) HasE.left (b : Nat) (o : Obj) (L1 L : List Ent) [h : HasE b o L1] : HasE b o (L1 ++ L) := ⟨List.mem_append_left _ h.out⟩
instance (priority := low) PutE.left (b : Nat) (f : List Value → List Value) (tt : TypeId) (l : List Value) (L0 L L' : List Ent) [h : PutE b f tt l L L'] : PutE b f tt l (L ++ L0) (L' ++ L0) :=
  ⟨let ⟨L1, L2, h1, h2⟩ := h.out; ⟨L1, L2 ++ L0, by rw [h1]; simp, by rw [h2]; simp⟩⟩
theorem sb0 (L : List Ent) : L.Sublist L := List.Sublist.refl _
theorem sb1 (L : List Ent) : ([] : List Ent).Sublist L := List.nil_sublist _
theorem sb2 (L1 L2 : List Ent) : L1.Sublist (L1 ++ L2) := List.sublist_append_left _ _
theorem sb3 (L1 L2 L3 : List Ent) : L1.Sublist (L1 ++ L2 ++ L3) := (List.sublist_append_left _ _).trans (List.sublist_append_left _ _)
theorem sb4 {a : Ent} {L1 L2 : List Ent} (h : L1.Sublist L2) : (a :: L1).Sublist (a :: L2) := h.cons_cons a
theorem sb5 {a : Ent} {L1 L2 : List Ent} (h : L1.Sublist L2) : L1.Sublist (a :: L2) := h.cons a
theorem sb6 {L0 L1 L2 : List Ent} (h : L0.Sublist L2) : L0.Sublist (L1 ++ L2) := h.trans (List.sublist_append_right _ _)
theorem pmm {L1 L2 : List Ent} (h : ∀ (_ : BEq Ent) (_ : LawfulBEq Ent) (z : Ent), L1.count z = L2.count z) : L1.Perm L2 := by classical exact List.perm_iff_count.2 (fun z => h _ inferInstance z)
section
variable [BEq Ent] {z a b : Ent} {L1 L2 : List Ent}
theorem pm1 : (L1 ++ L2).count z = L1.count z + L2.count z := List.count_append
theorem pm2 : (a :: L1).count z = L1.count z + if a == z then 1 else 0 := List.count_cons
theorem pm3 : ([] : List Ent).count z = 0 := List.count_nil
end
theorem pm4 {a b : Value} {l : List Value} : (a :: l).set 0 b = b :: l := rfl
theorem pm5 {a b : Value} {l : List Value} {n : Nat} : (a :: l).set (n + 1) b = a :: l.set n b := rfl
theorem pm6 {n : Nat} : n + 0 = n := rfl
section
variable {c : Cx} {k : List KI} {Q Qp : Po} {K : Ko} {ρ : Env} {ds : Ds} {L : List Ent} {ol rest : List Oper}
theorem X.fact {x : Code} {p : Prop} (h1 : ∀ w, St c.w0 c.S w L → p) (h2 : p → X c (.code x :: k) Q ρ ds L) : X c (.code x :: k) Q ρ ds L := fun w hw => h2 (h1 w hw) w hw
theorem RL.drop {L' : List Ent} (hq : c.q = false) (hs : L'.Sublist L) (h : RL c ol rest K Qp ρ ds L') : RL c ol rest K Qp ρ ds L := by
  rw [RL_f hq] at h ⊢
  exact fun w hw => h w (hw.sub hs)
theorem RL.fact {p : Prop} (hq : c.q = false) (h1 : ∀ w, St c.w0 c.S w L → p) (h2 : p → RL c ol rest K Qp ρ ds L) : RL c ol rest K Qp ρ ds L := by
  rw [RL_f hq]
  intro w hw
  have := h2 (h1 w hw)
  rw [RL_f hq] at this
  exact this w hw
theorem RL.perm {L' : List Ent} (hq : c.q = false) (hs : L'.Perm L) (h : RL c ol rest K Qp ρ ds L') : RL c ol rest K Qp ρ ds L := by
  rw [RL_f hq] at h ⊢
  exact fun w hw => h w (hw.perm hs)
variable {d : Option Nat} {ty : TypeId} {pos : String} {af : Array Edge} {g : Option (Nat × Bool)} {t t' : TypeId} {x y : Operand}
end
section
variable {c : Cx} {fn : Func} {R : Value → List Ent → Prop} {ρ : Env} {L : List Ent} {D : Nat}
end
def mark (D : Nat) : Deferred := { target := .collected D, args := #[] }
section
variable {c : Cx} {fn : Func} {R : Value → List Ent → Prop} {ρ : Env} {L : List Ent}
end
section
variable {c : Cx} {k : List KI} {Q : Po} {ρ : Env} {ds : Ds} {L : List Ent}
end
end Go.Proofs.YtpcdcemcjbeajaaGreatDoor
end
section
set_option linter.unusedVariables false
set_option linter.unusedSimpArgs false
namespace Go.Proofs.YtpcdcemcjbeajaaGreatDoor
open Go.RowKit
inductive Fact where
  | any
  | val (v : Value)
  | prd (p : Value → List Ent → Prop) (h : ∀ v L L', (∀ q ∈ L, q ∈ L') → p v L → p v L')
def Fact.holds : Fact → Value → List Ent → Prop
  | .any, _, _ => True
  | .val u, v, _ => v = u
  | .prd p _, v, L => p v L
theorem Fact.mono {f : Fact} {v : Value} {L L' : List Ent} (hs : ∀ q ∈ L, q ∈ L') (h : f.holds v L) : f.holds v L' := by
  cases f with
  | any => trivial
  | val u => exact h
  | prd p hp => exact hp v L L' hs h
def factAt (fs : List Fact) (j : Nat) : Fact := fs.getD j .any
def AllAt (p : Nat → Oper → Prop) : Nat → List Oper → Prop
  | _, [] => True
  | k, o :: l => p k o ∧ AllAt p (k + 1) l
theorem AllAt.get {p : Nat → Oper → Prop} : ∀ {l : List Oper} {k : Nat}, AllAt p k l → ∀ i o, l[i]? = some o → p (k + i) o
  | [], _, _, i, o, h => by simp at h
  | x :: l, k, ha, 0, o, h => by simp at h; subst h; exact ha.1
  | x :: l, k, ha, i + 1, o, h => by
    have := ha.2.get i o (by simpa using h)
    rwa [show k + (i + 1) = k + 1 + i by omega]
def dstsB : List Oper → List Nat → Bool
  | [], _ => true
  | o :: l, seen => (match o.dst with | some d => !(seen.contains d) | none => true) && dstsB l (match o.dst with | some d => d :: seen | none => seen)
def backB : List Oper → Nat → Bool
  | [], _ => true
  | o :: l, k => o.after.toList.all (fun e => Nat.blt e.on k) && backB l (k + 1)
theorem dstsB_seen : ∀ {l : List Oper} {seen : List Nat}, dstsB l seen = true → ∀ (i : Nat) (o : Oper) d, l[i]? = some o → o.dst = some d → d ∉ seen
  | [], _, _, i, o, d, h, _ => by simp at h
  | x :: l, seen, hb, i, o, d, h, hd => by
    simp only [dstsB, Bool.and_eq_true] at hb
    cases i with
    | zero =>
      simp at h; subst h
      rw [hd] at hb; simpa using hb.1
    | succ i =>
      have := dstsB_seen hb.2 i o d (by simpa using h) hd
      intro hm
      apply this
      cases x.dst with
      | none => exact hm
      | some e => exact List.mem_cons_of_mem _ hm
theorem dstsB_inj : ∀ {l : List Oper} {seen : List Nat}, dstsB l seen = true → ∀ (i j : Nat) (o o' : Oper) d, l[i]? = some o → l[j]? = some o' → o.dst = some d → o'.dst = some d → i = j
  | [], _, _, i, j, o, o', d, h, _, _, _ => by simp at h
  | x :: l, seen, hb, i, j, o, o', d, hi, hj, hd, hd' => by
    simp only [dstsB, Bool.and_eq_true] at hb
    cases i with
    | zero =>
      cases j with
      | zero => rfl
      | succ j =>
        simp at hi; subst hi
        have := dstsB_seen hb.2 j o' d (by simpa using hj) hd'
        rw [hd] at this; simp at this
    | succ i =>
      cases j with
      | zero =>
        simp at hj; subst hj
        have := dstsB_seen hb.2 i o d (by simpa using hi) hd
        rw [hd'] at this; simp at this
      | succ j => exact congrArg (· + 1) (dstsB_inj hb.2 i j o o' d (by simpa using hi) (by simpa using hj) hd hd')
theorem backB_get : ∀ {l : List Oper} {k : Nat}, backB l k = true → ∀ (i : Nat) (o : Oper), l[i]? = some o → ∀ e ∈ o.after, e.on < k + i
  | [], _, _, i, o, h, _, _ => by simp at h
  | x :: l, k, hb, i, o, h, e, he => by
    simp only [backB, Bool.and_eq_true] at hb
    cases i with
    | zero =>
      simp at h; subst h
      have := List.all_eq_true.1 hb.1 e (by simpa using he)
      rw [Nat.blt_eq] at this; omega
    | succ i =>
      have := backB_get hb.2 i o (by simpa using h) e he
      omega
theorem wpIn_swap {F : Fence} {n : Nat} {P : Program} {o : Oper} {a : Act} {w : World} {K K' : Act → World → Prop} {Q Q' : Exit → Act → World → Prop} (hK : ∀ a w, K a w → K' a w) (hQ : ∀ c a w, ¬ Q (.panic c) a w) (hL : ¬ LetsOut Q) (hh : o.wpIn F n P a w K Q) : o.wpIn F n P a w K' Q' := by
  unfold Oper.wpIn at *
  refine ⟨hh.1, ?_⟩
  have hh := hh.2
  generalize (o.semAt F.round a.eval).run P w = r at *
  cases r with
  | ok x w' =>
    cases x <;> simp only [Oper.uponIn] at hh ⊢ <;>
      first
        | exact hK _ _ hh
        | exact ⟨hh.1, CallsIn.mono hh.2 (fun e w'' he => by cases e <;> first | exact hK _ _ he | exact absurd he (hQ _ _ _) | exact absurd he hL)⟩
        | exact ⟨hh.1, RowsIn.mono hh.2 (fun _ _ he => hK _ _ he)⟩
        | exact ⟨hh.1, RoundIn.mono hh.2 (fun e w'' he => by cases e <;> first | exact hK _ _ he | exact absurd he (hQ _ _ _) | exact absurd he hL)⟩
  | halt x w' => cases x <;> simp only [Oper.uponIn] at hh ⊢ <;> first | exact absurd hh (hQ _ _ _) | exact hh
structure Mid (l : List Oper) (fs : List Fact) (ρ0 : Env) (L0 : List Ent) (listed : Array Bool) (ρ : Env) (L : List Ent) : Prop where
  size : listed.size = l.length
  fix : ∀ t, (∀ o ∈ l, o.dst ≠ some t) → ρ t = ρ0 t
  old : ∀ (j : Nat) (o : Oper) d, l[j]? = some o → o.dst = some d → listed.getD j true = false → ρ d = ρ0 d
  told : ∀ (j : Nat) (o : Oper) d, l[j]? = some o → o.dst = some d → listed.getD j false = true → (factAt fs j).holds (ρ d) L
  down : ∀ (j : Nat) (o : Oper), l[j]? = some o → listed.getD j false = true → ∀ e ∈ o.after, Region.binds .any e = true → listed.getD e.on false = true
  kept : ∀ p ∈ L0, p ∈ L
def StepOk (c : Cx) (l : List Oper) (fs : List Fact) (ρ0 : Env) (ds : Ds) (L0 : List Ent) (i : Nat) (o : Oper) : Prop :=
  ∀ ρ L, (∀ e ∈ o.after, Region.binds .any e = true → ∀ (o' : Oper) d, l[e.on]? = some o' → o'.dst = some d → (factAt fs e.on).holds (ρ d) L) → (∀ t, (∀ o ∈ l, o.dst ≠ some t) → ρ t = ρ0 t) →
    (∀ (j : Nat) (o' : Oper) d, l[j]? = some o' → o'.dst = some d → (∃ e ∈ o'.after, Region.binds .any e = true ∧ e.on = i) → ρ d = ρ0 d) → (∀ p ∈ L0, p ∈ L) →
    RL c l [o] (fun ρ2 ds2 L2 => ds2 = ds ∧ (∃ v, ρ2 = updO ρ o.dst v ∧ (factAt fs i).holds v L2) ∧ ∀ p ∈ L, p ∈ L2) (fun _ _ _ _ => False) ρ ds L
theorem St.subset {w0 w : World} {S : List Nat} {L L' : List Ent} (h : St w0 S w L) (hs : ∀ p ∈ L', p ∈ L) (hn : (keys L').Nodup) : St w0 S w L' :=
  ⟨h.os, h.tape, h.output, h.size, h.keep, fun p hp => h.own p (hs p hp), fun p hp => h.free p (hs p hp), hn⟩
theorem count_set {A : Array Bool} {i : Nat} (h : A.getD i true = false) : (A.setIfInBounds i true).toList.count false + 1 = A.toList.count false := by
  obtain ⟨l⟩ := A
  simp only [Array.getD_eq_getD_getElem?, List.getElem?_toArray, List.setIfInBounds_toArray] at h ⊢
  induction l generalizing i with
  | nil => simp at h
  | cons b l ih =>
    cases i with
    | zero => simp at h; subst h; simp
    | succ i =>
      have := ih (i := i) (by simpa using h)
      simp only [List.set_cons_succ, List.count_cons]
      omega
theorem getD_set_eq {A : Array Bool} {i j : Nat} {b : Bool} (hi : i < A.size) : (A.setIfInBounds i true).getD j b = if i = j then true else A.getD j b := by
  simp only [Array.getD_eq_getD_getElem?, Array.getElem?_setIfInBounds]
  by_cases h : i = j
  · subst h; simp [hi]
  · simp [h]
theorem not_listed {A : Array Bool} {j : Nat} (h : A.getD j true = false) : A.getD j false = false := by
  simp only [Array.getD_eq_getD_getElem?] at h ⊢
  cases hj : A[j]? with
  | none => simp [hj] at h
  | some b => simpa [hj] using h
theorem listed_of {A : Array Bool} {j : Nat} (hj : j < A.size) (h : ¬ A.getD j true = false) : A.getD j false = true := by
  simp only [Array.getD_eq_getD_getElem?, Array.getElem?_eq_getElem hj] at h ⊢
  simpa using h
section
variable {c : Cx} {l : List Oper} {fs : List Fact} {ρ0 : Env} {ds : Ds} {L0 : List Ent} {K : Ko}
theorem any_all (hq : c.q = false) (hd : dstsB l [] = true) (hb : backB l 0 = true) (hstep : AllAt (StepOk c l fs ρ0 ds L0) 0 l)
    (hend : ∀ ρ L, (∀ (j : Nat) (o : Oper) d, l[j]? = some o → o.dst = some d → (factAt fs j).holds (ρ d) L) → (∀ t, (∀ o ∈ l, o.dst ≠ some t) → ρ t = ρ0 t) → (∀ p ∈ L0, p ∈ L) → (keys L).Nodup → ∃ L', (∀ p ∈ L', p ∈ L) ∧ (keys L').Nodup ∧ K ρ ds L') :
    ∀ (fuel : Nat) (listed : Array Bool) (ρ : Env) (L : List Ent) (w : World), listed.toList.count false = fuel → Mid l fs ρ0 L0 listed ρ L → St c.w0 c.S w L →
      wpAnyIn (FR c.rd) 0 c.P .any l.toArray (lift c (nrm K (fun _ _ _ _ => False))) fuel listed (act c.n ρ ds) w := by
  have fin : ∀ (listed : Array Bool) (ρ : Env) (L : List Ent) (w : World), Region.ready .any l.toArray listed = [] → Mid l fs ρ0 L0 listed ρ L → St c.w0 c.S w L → lift c (nrm K (fun _ _ _ _ => False)) .normal (act c.n ρ ds) w := by
    intro listed ρ L w hr hm hst
    have hall : ∀ j, j < l.length → listed.getD j false = true := by
      intro j
      induction j using Nat.strongRecOn with
      | _ j ih =>
        intro hj
        by_cases hu : listed.getD j true = false
        · exfalso
          have : j ∈ Region.ready .any l.toArray listed := mem_ready.2 ⟨hu, l[j], by simp [hj], fun e he hbd => ih e.on (by have := backB_get hb j _ (List.getElem?_eq_getElem hj) e he; omega) (by have := backB_get hb j _ (List.getElem?_eq_getElem hj) e he; omega)⟩
          rw [hr] at this; cases this
        · exact listed_of (by rw [hm.size]; exact hj) hu
    obtain ⟨L', h1, h2, h3⟩ := hend ρ L (fun j o d ho hdd => hm.told j o d ho hdd (hall j (List.getElem?_eq_some_iff.1 ho).1)) hm.fix hm.kept hst.nodup
    exact ⟨ρ, ds, L', rfl, hst.subset h1 h2, h3⟩
  intro fuel
  induction fuel with
  | zero =>
    intro listed ρ L w hc hm hst
    have hr : Region.ready .any l.toArray listed = [] := by
      apply List.eq_nil_iff_forall_not_mem.2
      intro i hi
      have := count_set (mem_ready.1 hi).1
      omega
    exact ⟨hr, fin listed ρ L w hr hm hst⟩
  | succ fuel ih =>
    intro listed ρ L w hc hm hst
    refine ⟨fun hr => fin listed ρ L w hr hm hst, fun i hi => ?_⟩
    obtain ⟨hu, o, ho, hdeps⟩ := mem_ready.1 hi
    have ho' : l[i]? = some o := by simpa using ho
    have hil : i < listed.size := by rw [hm.size]; exact (List.getElem?_eq_some_iff.1 ho').1
    have hstep' := hstep.get i o ho'
    rw [Nat.zero_add] at hstep'
    have h1 := hstep' ρ L (fun e he hbd o' d ho2 hd2 => hm.told e.on o' d ho2 hd2 (hdeps e he hbd)) hm.fix
      (fun j o' d hj hdj ⟨e, he, hbd, hei⟩ => hm.old j o' d hj hdj (by
        cases hlj : listed.getD j true with
        | false => rfl
        | true =>
          exfalso
          have hjl : j < listed.size := by rw [hm.size]; exact (List.getElem?_eq_some_iff.1 hj).1
          have h2 := hm.down j o' hj (listed_of hjl (by rw [hlj]; simp)) e he hbd
          rw [hei] at h2
          rw [not_listed hu] at h2; cases h2)) hm.kept
    rw [RL_f hq] at h1
    have h2 := h1 w hst
    unfold wpOpIn
    simp only [List.getElem?_toArray, ho']
    simp only [wpListIn] at h2
    have next : ∀ a' w', lift c (nrm (fun ρ2 ds2 L2 => ds2 = ds ∧ (∃ v, ρ2 = updO ρ o.dst v ∧ (factAt fs i).holds v L2) ∧ ∀ p ∈ L, p ∈ L2) (fun _ _ _ _ => False)) .normal a' w' →
        wpAnyIn (FR c.rd) 0 c.P .any l.toArray (lift c (nrm K (fun _ _ _ _ => False))) fuel (listed.setIfInBounds i true) a' w' := by
      rintro a' w' ⟨ρ2, ds2, L2, rfl, hst2, rfl, ⟨v, rfl, hF⟩, hsub⟩
      refine ih _ _ L2 w' (by have := count_set hu; omega) ?_ hst2
      have hne : ∀ j o' d, l[j]? = some o' → o'.dst = some d → j ≠ i → updO ρ o.dst v d = ρ d := by
        intro j o' d hj hdj hji
        cases hod : o.dst with
        | none => rfl
        | some e =>
          have : d ≠ e := fun hde => hji (dstsB_inj hd j i o' o d hj ho' hdj (by rw [hod, hde]))
          exact upd_ne _ _ this
      refine ⟨by simpa using hm.size, fun t ht => ?_, fun j o' d hj hdj hlj => ?_, fun j o' d hj hdj hlj => ?_, fun j o' hj hlj e he hbd => ?_, fun p hp => hsub p (hm.kept p hp)⟩
      · cases hod : o.dst with
        | none => exact hm.fix t ht
        | some e =>
          have : t ≠ e := fun hte => ht o (List.mem_of_getElem? ho') (by rw [hod, hte])
          simp only [updO]; rw [upd_ne _ _ this]; exact hm.fix t ht
      · rw [getD_set_eq hil] at hlj
        by_cases hij : i = j
        · rw [if_pos hij] at hlj; cases hlj
        · rw [if_neg hij] at hlj
          rw [hne j o' d hj hdj (Ne.symm hij)]; exact hm.old j o' d hj hdj hlj
      · rw [getD_set_eq hil] at hlj
        by_cases hij : i = j
        · subst hij
          rw [ho'] at hj; obtain rfl := Option.some.inj hj
          rw [hdj]; simp only [updO]; rw [upd_same]; exact hF
        · rw [if_neg hij] at hlj
          rw [hne j o' d hj hdj (Ne.symm hij)]; exact Fact.mono hsub (hm.told j o' d hj hdj hlj)
      · rw [getD_set_eq hil] at hlj ⊢
        by_cases hei : i = e.on
        · rw [if_pos hei]
        · rw [if_neg hei]
          by_cases hij : i = j
          · subst hij
            rw [ho'] at hj; obtain rfl := Option.some.inj hj
            exact hdeps e he hbd
          · rw [if_neg hij] at hlj; exact hm.down j o' hj hlj e he hbd
    split
    · rename_i hw
      rw [if_pos hw] at h2
      exact wpIn_swap next (fun cc a w => by rintro ⟨_, _, _, _, _, h⟩; exact h) (by rintro ⟨a, w, _, _, _, _, _, h⟩; exact h) h2
    · rename_i hw
      rw [if_neg hw] at h2
      exact ⟨h2.1, next _ _ h2.2⟩
theorem X.any {k : List KI} {Q : Po} {id : Nat} (fs : List Fact) (hq : c.q = false) (hm : c.P.follows .mixedOrders = true) (hd : dstsB l [] = true) (hb : backB l 0 = true) (hstep : AllAt (StepOk c l fs ρ0 ds L0) 0 l)
    (hend : ∀ ρ L, (∀ (j : Nat) (o : Oper) d, l[j]? = some o → o.dst = some d → (factAt fs j).holds (ρ d) L) → (∀ t, (∀ o ∈ l, o.dst ≠ some t) → ρ t = ρ0 t) → (∀ p ∈ L0, p ∈ L) → X c k Q ρ ds L) : X c (.code (.region id l.toArray true) :: k) Q ρ0 ds L0 := by
  intro w hw
  refine wpIn_mono (wpIn_region_any hm (Q := lift c (nrm (X c k Q) (fun _ _ _ _ => False))) ?_) ?_
  · have := any_all (K := X c k Q) hq hd hb hstep (fun ρ L h1 h2 h3 h4 => ⟨L, fun _ h => h, h4, hend ρ L h1 h2 h3⟩) l.length (Array.replicate l.length false) ρ0 L0 { w with drawn := w.drawn + 1 } (by simp) ⟨by simp, fun _ _ => rfl, fun _ _ _ _ _ _ => rfl, fun j o d hj _ hl => by
      have := (List.getElem?_eq_some_iff.1 hj).1
      simp [Array.getD_eq_getD_getElem?, this] at hl, fun j o hj hl => by
      have := (List.getElem?_eq_some_iff.1 hj).1
      simp [Array.getD_eq_getD_getElem?, this] at hl, fun _ h => h⟩ (hw.drawn _)
    simpa using this
  · rintro e a w' ⟨ρ', ds', L', rfl, hst, h⟩
    cases e with
    | normal => exact ⟨ρ', ds', L', rfl, hst, h⟩
    | _ => exact h.elim
end
end Go.Proofs.YtpcdcemcjbeajaaGreatDoor
end
section
set_option linter.unusedVariables false
set_option linter.unusedSimpArgs false
namespace Go.Proofs.YtpcdcemcjbeajaaGreatDoor
open Go.RowKit
theorem wpIn_swapQ {F : Fence} {n : Nat} {P : Program} {o : Oper} {a : Act} {w : World} {K K' : Act → World → Prop} {Q Q' : Exit → Act → World → Prop} (hK : ∀ a w, K a w → K' a w) (hQ : ∀ c a w, Q (.panic c) a w → Q' (.panic c) a w) (hL : LetsOut Q → LetsOut Q') (hh : o.wpIn F n P a w K Q) : o.wpIn F n P a w K' Q' := by
  unfold Oper.wpIn at *
  refine ⟨hh.1, ?_⟩
  have hh := hh.2
  generalize (o.semAt F.round a.eval).run P w = r at *
  cases r with
  | ok x w' =>
    cases x <;> simp only [Oper.uponIn] at hh ⊢ <;>
      first
        | exact hK _ _ hh
        | exact ⟨hh.1, CallsIn.mono hh.2 (fun e w'' he => by cases e <;> first | exact hK _ _ he | exact hQ _ _ _ he | exact hL he)⟩
        | exact ⟨hh.1, RowsIn.mono hh.2 (fun _ _ he => hK _ _ he)⟩
        | exact ⟨hh.1, RoundIn.mono hh.2 (fun e w'' he => by cases e <;> first | exact hK _ _ he | exact hQ _ _ _ he | exact hL he)⟩
  | halt x w' => cases x <;> simp only [Oper.uponIn] at hh ⊢ <;> first | exact hQ _ _ _ hh | exact hh
def backC : List Oper → Nat → Bool
  | [], _ => true
  | o :: l, k => o.after.toList.all (fun e => !(Region.binds .any e) || Nat.blt e.on k) && backC l (k + 1)
theorem backC_get : ∀ {l : List Oper} {k : Nat}, backC l k = true → ∀ (i : Nat) (o : Oper), l[i]? = some o → ∀ e ∈ o.after, Region.binds .any e = true → e.on < k + i
  | [], _, _, i, o, h, _, _, _ => by simp at h
  | x :: l, k, hb, i, o, h, e, he, hbd => by
    simp only [backC, Bool.and_eq_true] at hb
    cases i with
    | zero =>
      simp at h; subst h
      have := List.all_eq_true.1 hb.1 e (by simpa using he)
      rw [hbd] at this
      simp only [Bool.not_true, Bool.false_or, Nat.blt_eq] at this; omega
    | succ i =>
      have := backC_get hb.2 i o (by simpa using h) e he hbd
      omega
def clB (l : List Oper) (cl : List (List Nat)) : Nat → List Oper → Bool
  | _, [] => true
  | i, o :: r => (cl.getD i []).all (fun q => o.after.toList.any (fun e => Region.binds .any e && (e.on == q || (cl.getD e.on []).contains q))) && clB l cl (i + 1) r
theorem clB_get {l : List Oper} {cl : List (List Nat)} : ∀ {r : List Oper} {k : Nat}, clB l cl k r = true → ∀ (i : Nat) (o : Oper), r[i]? = some o → ∀ q ∈ cl.getD (k + i) [], ∃ e ∈ o.after, Region.binds .any e = true ∧ (e.on = q ∨ q ∈ cl.getD e.on [])
  | [], _, _, i, o, h => by simp at h
  | x :: r, k, hb, i, o, h => by
    simp only [clB, Bool.and_eq_true] at hb
    cases i with
    | zero =>
      simp at h; subst h
      intro q hq
      have := List.all_eq_true.1 hb.1 q (by simpa using hq)
      obtain ⟨e, he, h2⟩ := List.any_eq_true.1 this
      simp only [Bool.and_eq_true, Bool.or_eq_true, beq_iff_eq] at h2
      exact ⟨e, by simpa using he, h2.1, h2.2.imp id (fun h => by simpa using h)⟩
    | succ i =>
      have := clB_get hb.2 i o (by simpa using h)
      rwa [show k + 1 + i = k + (i + 1) by omega] at this
structure Stg (l : List Oper) (fs : List Fact) (cl : List (List Nat)) (SP : (Nat → Bool) → Env → List Ent → Prop) (ρ0 : Env) (i : Nat) (o : Oper) (ρ : Env) (L : List Ent) (D : Nat → Bool) : Prop where
  dep : ∀ e ∈ o.after, Region.binds .any e = true → ∀ (o' : Oper) d, l[e.on]? = some o' → o'.dst = some d → (factAt fs e.on).holds (ρ d) []
  fix : ∀ t, (∀ o ∈ l, o.dst ≠ some t) → ρ t = ρ0 t
  old : ∀ (k : Nat) (o' : Oper) d, l[k]? = some o' → o'.dst = some d → (∃ e ∈ o'.after, Region.binds .any e = true ∧ e.on = i) → ρ d = ρ0 d
  low : ∀ q, q ∈ cl.getD i [] → D q = true
  up : ∀ q, q < l.length → i ∈ cl.getD q [] → D q = false
  self : D i = false
  sp : SP D ρ L
section
variable {l : List Oper} {fs : List Fact} {cl : List (List Nat)} {SP : (Nat → Bool) → Env → List Ent → Prop} {ρ0 : Env} {i : Nat} {o : Oper} {ρ : Env} {L : List Ent} {D : Nat → Bool}
theorem Stg.lo (h : Stg l fs cl SP ρ0 i o ρ L D) (q : Nat) (hr : (cl.getD i []).contains q = true) (hq : D q = false) {p : Prop} : p := by
  have := h.low q (by simpa using hr); rw [hq] at this; cases this
theorem Stg.hi (h : Stg l fs cl SP ρ0 i o ρ L D) (q : Nat) (hl : Nat.blt q l.length = true) (hr : (cl.getD q []).contains i = true) (hq : D q = true) {p : Prop} : p := by
  have := h.up q (by simpa [Nat.blt_eq] using hl) (by simpa using hr); rw [hq] at this; cases this
theorem Stg.me (h : Stg l fs cl SP ρ0 i o ρ L D) (hq : D i = true) {p : Prop} : p := by
  have := h.self; rw [hq] at this; cases this
end
def StgOk (c : Cx) (l : List Oper) (fs : List Fact) (cl : List (List Nat)) (SP : (Nat → Bool) → Env → List Ent → Prop) (ρ0 : Env) (ds : Ds) (Qp : Po) (i : Nat) (o : Oper) : Prop :=
  ∀ ρ L D, Stg l fs cl SP ρ0 i o ρ L D → RL c l [o] (fun ρ2 ds2 L2 => ds2 = ds ∧ (∃ v, ρ2 = updO ρ o.dst v ∧ (factAt fs i).holds v []) ∧ SP (fun q => q == i || D q) ρ2 L2) Qp ρ ds L
structure MidT (l : List Oper) (fs : List Fact) (SP : (Nat → Bool) → Env → List Ent → Prop) (ρ0 : Env) (listed : Array Bool) (ρ : Env) (L : List Ent) : Prop where
  size : listed.size = l.length
  fix : ∀ t, (∀ o ∈ l, o.dst ≠ some t) → ρ t = ρ0 t
  old : ∀ (k : Nat) (o : Oper) d, l[k]? = some o → o.dst = some d → listed.getD k true = false → ρ d = ρ0 d
  told : ∀ (k : Nat) (o : Oper) d, l[k]? = some o → o.dst = some d → listed.getD k false = true → (factAt fs k).holds (ρ d) []
  down : ∀ (k : Nat) (o : Oper), l[k]? = some o → listed.getD k false = true → ∀ e ∈ o.after, Region.binds .any e = true → listed.getD e.on false = true
  sp : SP (fun q => listed.getD q false) ρ L
theorem cl_listed {l : List Oper} {cl : List (List Nat)} {listed : Array Bool} (hc : clB l cl 0 l = true) (hb : backC l 0 = true) (hd : ∀ (k : Nat) (o : Oper), l[k]? = some o → listed.getD k false = true → ∀ e ∈ o.after, Region.binds .any e = true → listed.getD e.on false = true) :
    ∀ n (i : Nat) (o : Oper), i < n → l[i]? = some o → (∀ e ∈ o.after, Region.binds .any e = true → listed.getD e.on false = true) → ∀ q ∈ cl.getD i [], listed.getD q false = true := by
  intro n
  induction n with
  | zero => intro i o hi; omega
  | succ n ih =>
    intro i o hi ho hdep q hq
    obtain ⟨e, he, hbd, h⟩ := clB_get hc i o ho q (by simpa using hq)
    have hl := hdep e he hbd
    rcases h with rfl | h
    · exact hl
    · have hlt := backC_get hb i o ho e he hbd
      have hil := (List.getElem?_eq_some_iff.1 ho).1
      have ho2 : l[e.on]? = some (l[e.on]'(by omega)) := List.getElem?_eq_getElem (by omega)
      exact ih e.on _ (by omega) ho2 (fun e2 h2 hb2 => hd e.on _ ho2 hl e2 h2 hb2) q h
theorem done_no {D : Nat → Bool} {n : Nat} (h : ∀ q, q < n → D q = true) (q : Nat) (hq : Nat.blt q n = true) (e : D q = false) {p : Prop} : p := by
  have := h q (by simpa [Nat.blt_eq] using hq); rw [e] at this; cases this
section
variable {c : Cx} {l : List Oper} {fs : List Fact} {cl : List (List Nat)} {SP : (Nat → Bool) → Env → List Ent → Prop} {ρ0 : Env} {ds : Ds} {K : Ko} {Qp : Po}
theorem set_all (hq : c.q = false) (hd : dstsB l [] = true) (hb : backC l 0 = true) (hcl : clB l cl 0 l = true) (hstep : AllAt (StgOk c l fs cl SP ρ0 ds Qp) 0 l)
    (hend : ∀ ρ L D, (∀ q, q < l.length → D q = true) → (∀ (j : Nat) (o : Oper) d, l[j]? = some o → o.dst = some d → (factAt fs j).holds (ρ d) []) → (∀ t, (∀ o ∈ l, o.dst ≠ some t) → ρ t = ρ0 t) → SP D ρ L → ∃ Lp, Lp.Perm L ∧ ∃ L', L'.Sublist Lp ∧ K ρ ds L') :
    ∀ (fuel : Nat) (listed : Array Bool) (ρ : Env) (L : List Ent) (w : World), listed.toList.count false = fuel → MidT l fs SP ρ0 listed ρ L → St c.w0 c.S w L →
      wpAnyIn (FR c.rd) 0 c.P .any l.toArray (lift c (nrm K Qp)) fuel listed (act c.n ρ ds) w := by
  have fin : ∀ (listed : Array Bool) (ρ : Env) (L : List Ent) (w : World), Region.ready .any l.toArray listed = [] → MidT l fs SP ρ0 listed ρ L → St c.w0 c.S w L → lift c (nrm K Qp) .normal (act c.n ρ ds) w := by
    intro listed ρ L w hr hm hst
    have hall : ∀ j, j < l.length → listed.getD j false = true := by
      intro j
      induction j using Nat.strongRecOn with
      | _ j ih =>
        intro hj
        by_cases hu : listed.getD j true = false
        · exfalso
          have : j ∈ Region.ready .any l.toArray listed := mem_ready.2 ⟨hu, l[j], by simp [hj], fun e he hbd => ih e.on (by have := backC_get hb j _ (List.getElem?_eq_getElem hj) e he hbd; omega) (by have := backC_get hb j _ (List.getElem?_eq_getElem hj) e he hbd; omega)⟩
          rw [hr] at this; cases this
        · exact listed_of (by rw [hm.size]; exact hj) hu
    obtain ⟨Lp, hp, L', hs, hK⟩ := hend ρ L _ hall (fun k o d ho hdd => hm.told k o d ho hdd (hall k (List.getElem?_eq_some_iff.1 ho).1)) hm.fix hm.sp
    exact ⟨ρ, ds, L', rfl, (hst.perm hp).sub hs, hK⟩
  intro fuel
  induction fuel with
  | zero =>
    intro listed ρ L w hc hm hst
    have hr : Region.ready .any l.toArray listed = [] := by
      apply List.eq_nil_iff_forall_not_mem.2
      intro i hi
      have := count_set (mem_ready.1 hi).1
      omega
    exact ⟨hr, fin listed ρ L w hr hm hst⟩
  | succ fuel ih =>
    intro listed ρ L w hc hm hst
    refine ⟨fun hr => fin listed ρ L w hr hm hst, fun i hi => ?_⟩
    obtain ⟨hu, o, ho, hdeps⟩ := mem_ready.1 hi
    have ho' : l[i]? = some o := by simpa using ho
    have hil : i < listed.size := by rw [hm.size]; exact (List.getElem?_eq_some_iff.1 ho').1
    have hun := not_listed hu
    have hrl := cl_listed hcl hb hm.down (i + 1) i o (by omega) ho' hdeps
    have hstep' := hstep.get i o ho'
    rw [Nat.zero_add] at hstep'
    have h1 := hstep' ρ L (fun q => listed.getD q false) ⟨fun e he hbd o' d ho2 hd2 => hm.told e.on o' d ho2 hd2 (hdeps e he hbd), hm.fix,
      (fun k o' d hk hdk ⟨e, he, hbd, hei⟩ => hm.old k o' d hk hdk (by
        cases hlj : listed.getD k true with
        | false => rfl
        | true =>
          exfalso
          have hjl : k < listed.size := by rw [hm.size]; exact (List.getElem?_eq_some_iff.1 hk).1
          have h2 := hm.down k o' hk (listed_of hjl (by rw [hlj]; simp)) e he hbd
          rw [hei, hun] at h2; cases h2)),
      hrl,
      (fun q hql hiq => by
        show listed.getD q false = false
        apply Bool.eq_false_iff.2
        intro hlq
        have h3 := List.getElem?_eq_getElem hql
        have := cl_listed hcl hb hm.down (q + 1) q _ (by omega) h3 (fun e he hbd => hm.down q _ h3 hlq e he hbd) i hiq
        rw [hun] at this; cases this),
      hun, hm.sp⟩
    rw [RL_f hq] at h1
    have h2 := h1 w hst
    unfold wpOpIn
    simp only [List.getElem?_toArray, ho']
    simp only [wpListIn] at h2
    have next : ∀ a' w', lift c (nrm (fun ρ2 ds2 L2 => ds2 = ds ∧ (∃ v, ρ2 = updO ρ o.dst v ∧ (factAt fs i).holds v []) ∧ SP (fun q => q == i || listed.getD q false) ρ2 L2) Qp) .normal a' w' →
        wpAnyIn (FR c.rd) 0 c.P .any l.toArray (lift c (nrm K Qp)) fuel (listed.setIfInBounds i true) a' w' := by
      rintro a' w' ⟨ρ2, ds2, L2, rfl, hst2, rfl, ⟨v, rfl, hF⟩, hsp⟩
      refine ih _ _ L2 w' (by have := count_set hu; omega) ?_ hst2
      have hne : ∀ (k : Nat) (o' : Oper) d, l[k]? = some o' → o'.dst = some d → k ≠ i → updO ρ o.dst v d = ρ d := by
        intro k o' d hk hdk hji
        cases hod : o.dst with
        | none => rfl
        | some e =>
          have : d ≠ e := fun hde => hji (dstsB_inj hd k i o' o d hk ho' hdk (by rw [hod, hde]))
          exact upd_ne _ _ this
      have hD : (fun q => (listed.setIfInBounds i true).getD q false) = (fun q => q == i || listed.getD q false) := by
        funext q
        rw [getD_set_eq hil]
        by_cases hiq : i = q
        · subst hiq; simp
        · rw [if_neg hiq, beq_false_of_ne (Ne.symm hiq)]; rfl
      refine ⟨by simpa using hm.size, fun t ht => ?_, fun k o' d hk hdk hlj => ?_, fun k o' d hk hdk hlj => ?_, fun k o' hk hlj e he hbd => ?_, by rw [hD]; exact hsp⟩
      · cases hod : o.dst with
        | none => exact hm.fix t ht
        | some e =>
          have : t ≠ e := fun hte => ht o (List.mem_of_getElem? ho') (by rw [hod, hte])
          simp only [updO]; rw [upd_ne _ _ this]; exact hm.fix t ht
      · rw [getD_set_eq hil] at hlj
        by_cases hij : i = k
        · rw [if_pos hij] at hlj; cases hlj
        · rw [if_neg hij] at hlj
          rw [hne k o' d hk hdk (Ne.symm hij)]; exact hm.old k o' d hk hdk hlj
      · rw [getD_set_eq hil] at hlj
        by_cases hij : i = k
        · subst hij
          rw [ho'] at hk; obtain rfl := Option.some.inj hk
          rw [hdk]; simp only [updO]; rw [upd_same]; exact hF
        · rw [if_neg hij] at hlj
          rw [hne k o' d hk hdk (Ne.symm hij)]; exact hm.told k o' d hk hdk hlj
      · rw [getD_set_eq hil] at hlj ⊢
        by_cases hei : i = e.on
        · rw [if_pos hei]
        · rw [if_neg hei]
          by_cases hij : i = k
          · subst hij
            rw [ho'] at hk; obtain rfl := Option.some.inj hk
            exact hdeps e he hbd
          · rw [if_neg hij] at hlj; exact hm.down k o' hk hlj e he hbd
    split
    · rename_i hw
      rw [if_pos hw] at h2
      exact wpIn_swapQ next (fun cc a w h => h) (fun h => h) h2
    · rename_i hw
      rw [if_neg hw] at h2
      exact ⟨h2.1, next _ _ h2.2⟩
theorem X.set {k : List KI} {Q : Po} {id : Nat} {L0 : List Ent} (fs : List Fact) (cl : List (List Nat)) (SP : (Nat → Bool) → Env → List Ent → Prop) (hq : c.q = false) (hm : c.P.follows .mixedOrders = true) (hd : dstsB l [] = true) (hb : backC l 0 = true) (hcl : clB l cl 0 l = true) (h0 : ∀ D, (∀ q, D q = false) → SP D ρ0 L0) (hstep : AllAt (StgOk c l fs cl SP ρ0 ds (xit c Q k)) 0 l)
    (hend : ∀ ρ L D, (∀ q, q < l.length → D q = true) → (∀ (j : Nat) (o : Oper) d, l[j]? = some o → o.dst = some d → (factAt fs j).holds (ρ d) []) → (∀ t, (∀ o ∈ l, o.dst ≠ some t) → ρ t = ρ0 t) → SP D ρ L → ∃ Lp, Lp.Perm L ∧ ∃ L', L'.Sublist Lp ∧ X c k Q ρ ds L') : X c (.code (.region id l.toArray true) :: k) Q ρ0 ds L0 := by
  intro w hw
  refine wpIn_mono (wpIn_region_any hm (Q := lift c (nrm (X c k Q) (xit c Q k))) ?_) ?_
  · have nol : ∀ q, (Array.replicate l.length false).getD q false = true → False := fun q hl => by
      by_cases hql : q < l.length
      · simp [Array.getD_eq_getD_getElem?, hql] at hl
      · simp [Array.getD_eq_getD_getElem?, hql] at hl
    have := set_all (K := X c k Q) hq hd hb hcl hstep hend l.length (Array.replicate l.length false) ρ0 L0 { w with drawn := w.drawn + 1 } (by simp) ⟨by simp, fun _ _ => rfl, fun _ _ _ _ _ _ => rfl, fun j o d hj _ hl => (nol _ hl).elim, fun j o hj hl => (nol _ hl).elim, h0 _ (fun q => by
      cases hql : (Array.replicate l.length false).getD q false with
      | false => rfl
      | true => exact (nol q hql).elim)⟩ (hw.drawn _)
    simpa using this
  · rintro e a w' ⟨ρ', ds', L', rfl, hst, h⟩
    rw [nrm_xit] at h
    exact ⟨ρ', ds', L', rfl, hst, h⟩
end
end Go.Proofs.YtpcdcemcjbeajaaGreatDoor
end
section
set_option linter.unusedVariables false
set_option linter.unusedSimpArgs false
namespace Go.Proofs.YtpcdcemcjbeajaaGreatDoor
open Go.RowKit
section
variable {c : Cx} {Qp : Po} {K : Ko} {ρ : Env} {ds : Ds} {L : List Ent} {ol rest : List Oper} {d : Option Nat} {ty : TypeId} {pos : String} {af : Array Edge} {g : Option (Nat × Bool)} {t t' : TypeId} {x y : Operand}
theorem run_eqInP {P : Program} {e : TypeId} (w : World) (d : Nat) (t : TypeId) (A : Option Addr) (h : P.underlying t = some (.pointer e)) : (Op.equalIn (d + 1) t (.pointer A) (.pointer none)).run P w = .ok A.isNone w := by
  cases A <;> simp [Op.equalIn, Sem.run_bind, run_underlying h]
theorem run_eqP {P : Program} {e : TypeId} (w : World) (t : TypeId) (A : Option Addr) (h : P.underlying t = some (.pointer e)) : (Op.equal t (.pointer A) (.pointer none)).run P w = .ok A.isNone w := run_eqInP w 9999 t A h
theorem RL.eqP {e : TypeId} {A : Option Addr} {b : Bool} (hw : wantE c.n ol ρ ⟨d, .binOp .eql t x y t', ty, pos, af, g⟩ = true) (hu : c.P.underlying t = some (.pointer e)) (hx : evE c.n ρ x = .pointer A) (hy : evE c.n ρ y = .pointer none) (hb : A.isNone = b) (h : RL c ol rest K Qp (updO ρ d (.bool b)) ds L) :
    RL c ol (⟨d, .binOp .eql t x y t', ty, pos, af, g⟩ :: rest) K Qp ρ ds L :=
  RL.pure hw rfl (fun w => by
    subst hb
    have hg : (eqGuard .eql t x y (.pointer A) (.pointer none)).run c.P w = .ok () w := rfl
    simp only [execOp, hx, hy, Sem.run_bind, hg, Result.andThen_ok, binOp]
    simp [run_eqP w t A hu]) h
theorem RL.neP {e : TypeId} {A : Option Addr} {b : Bool} (hw : wantE c.n ol ρ ⟨d, .binOp .neq t x y t', ty, pos, af, g⟩ = true) (hu : c.P.underlying t = some (.pointer e)) (hx : evE c.n ρ x = .pointer A) (hy : evE c.n ρ y = .pointer none) (hb : (!A.isNone) = b) (h : RL c ol rest K Qp (updO ρ d (.bool b)) ds L) :
    RL c ol (⟨d, .binOp .neq t x y t', ty, pos, af, g⟩ :: rest) K Qp ρ ds L :=
  RL.pure hw rfl (fun w => by
    subst hb
    have hg : (eqGuard .neq t x y (.pointer A) (.pointer none)).run c.P w = .ok () w := rfl
    simp only [execOp, hx, hy, Sem.run_bind, hg, Result.andThen_ok, binOp]
    simp [run_eqP w t A hu]) h
end
section
variable {c : Cx} {Qp : Po} {K : Ko} {ρ : Env} {ds : Ds} {L : List Ent} {ol rest : List Oper} {d : Option Nat} {ty : TypeId} {pos : String} {af : Array Edge} {g : Option (Nat × Bool)} {t t' : TypeId} {x y : Operand}
end
section
variable {c : Cx} {fn : Func} {R : Value → List Ent → Prop} {ρ : Env} {L : List Ent}
end
end Go.Proofs.YtpcdcemcjbeajaaGreatDoor
end
