/- SYM: a range over a function: the iterator's word ('Iter'), a call of yield, the loop. -/
import Derived.Test.YtgmlbaffghogaaaGreatDoorSymOps
import Derived.RangeFuncNested
set_option linter.unusedVariables false
set_option linter.unusedSimpArgs false
namespace Go.Proofs.YtgmlbaffghogaaaGreatDoor
open Go.RowKit
/-- A call of the yield of loop l: one round of it; of what lies in the world it may change LJ alone. -/
def YieldC (P : Program) (l : Nat) (args : List Value) (w : World) (LJ : List Ent) (R : Bool → List Ent → Prop) : Prop :=
  ∃ fn tmps assign body, (Instr.yield l args.toArray).run P w = .ok (.round l fn tmps assign body) w ∧
    RoundIn (FR none) 0 P l fn tmps assign body w fun e w' => ∃ b L', e = .returned (.bool b) ∧ St w (keys LJ) w' L' ∧ R b L'
/-- An iterator's word: whatever a round does to LJ, it goes through Full, in order, and stops where a round says so. 'Av': the blocks that the iterator itself reads. -/
def Iter {α : Type} (P : Program) (gf : FuncId) (lb : List Value) (encs : α → List Value) (Full : List α) (Av : List Nat) (w : World) : Prop :=
  ∀ (l : Nat) (LJ : List Ent) (J Jx : List α → List Ent → Prop), (∀ p ∈ LJ, w.heap[p.1]? = some p.2) → (keys LJ).Nodup → (∀ k ∈ Av, k ∉ keys LJ) → J [] LJ →
    (∀ pre x rest LJ' Lo w1, Full = pre ++ x :: rest → J pre LJ' → St w (keys LJ) w1 (LJ' ++ Lo) →
      YieldC P l (encs x) w1 LJ' fun b L' => (b = true ∧ J (pre ++ [x]) L') ∨ (b = false ∧ Jx (pre ++ [x]) L')) →
    Ctr P gf (.func (.yield l) #[] #[] :: lb) w LJ fun _ L' => ∃ LJ' Lo, L' = LJ' ++ Lo ∧ (J Full LJ' ∨ ∃ pre x rest, Full = pre ++ x :: rest ∧ Jx (pre ++ [x]) LJ')

section
variable {c : Cx} {Qp : Po} {K : Ko} {ρ : Env} {ds : Ds} {L : List Ent} {ol rest : List Oper}
variable {d : Option Nat} {ty : TypeId} {pos : String} {af : Array Edge} {g : Option (Nat × Bool)}
theorem RL.yield {l : Nat} {vals : List Value} {LJ Lo : List Ent} {R : Bool → List Ent → Prop} {cal : Operand} {xs : Array Operand} {ts : Array TypeId} (hq : c.q = false) (hw : wantE c.n ol ρ ⟨d, .call ⟨.value cal, xs, ts⟩, ty, pos, af, g⟩ = true)
    (hf : evE c.n ρ cal = .func (.yield l) #[] #[]) (hL : L.Perm (LJ ++ Lo)) (hc : ∀ w, St c.w0 c.S w (LJ ++ Lo) → YieldC c.P l vals w LJ R) (ha : argsE c.n ρ xs = vals)
    (h : ∀ b L', R b L' → RL c ol rest K Qp (updO ρ d (.bool b)) ds (L' ++ Lo)) : RL c ol (⟨d, .call ⟨.value cal, xs, ts⟩, ty, pos, af, g⟩ :: rest) K Qp ρ ds L := by
  refine RL.round (l := l) (fn := 0) (tmps := #[]) (assign := .skip) (body := .skip) hq hw rfl fun w hst => ?_
  have hst' := hst.perm hL.symm
  obtain ⟨fn, tmps, assign, body, hy, hr⟩ := hc w hst'
  refine ⟨l, fn, tmps, assign, body, ?_, hr.mono ?_⟩
  · subst ha
    have : (execOp (evE c.n ρ) ⟨d, .call ⟨.value cal, xs, ts⟩, ty, pos, af, g⟩).run c.P w = (Instr.yield l (argsE c.n ρ xs).toArray).run c.P w := by
      simp [execOp, resolve, Deferred.ofValue, hf, invoke, Sem.run_bind, argsE, ← Array.toList_map]
    rw [this]; exact hy
  · rintro e w' ⟨b, L', rfl, h2, h3⟩
    exact ⟨_, L' ++ Lo, rfl, hst'.comp h2, h b L' h3⟩
end

/-- The parameters of a round. -/
def updP (ρ : Env) : List Nat → List Value → Env
  | p :: ps, v :: vs => updP (upd ρ p v) ps vs
  | _, _ => ρ
theorem act_params (n : Nat) (ds : Ds) : ∀ (ps : List Nat) (vs : List Value) (ρ : Env), (ps.zip vs).foldl (fun t (p : Nat × Value) => t.setIfInBounds p.1 p.2) (act n ρ ds).tmps = (act n (updP ρ ps vs) ds).tmps
  | [], vs, ρ => by simp [updP]
  | p :: ps, [], ρ => by simp [updP]
  | p :: ps, v :: vs, ρ => by
    simp only [List.zip_cons_cons, List.foldl_cons, updP]
    have := congrArg Act.tmps (act_put n ρ ds (some p) v)
    simp only [Act.put, updO] at this
    rw [this]
    exact act_params n ds ps vs _
def exCode : Exit → Code
  | .ret => .ret
  | .exit id => .exit id
  | .goto t => .goto t
  | _ => .skip
def exJump : Exit → Option Code
  | .normal => none
  | e => some (exCode e)
/-- How a round of the loop may be left: 'I' where it goes on, 'Ix' by a way out. -/
def RoundQ (I : List Ent → Prop) (Ix : Exit → List Ent → Prop) : Po := fun e _ _ L =>
  match e with
  | .normal => ∃ L', L'.Sublist L ∧ I L'
  | .ret => ∃ L', L'.Sublist L ∧ Ix .ret L'
  | .exit id => ∃ L', L'.Sublist L ∧ Ix (.exit id) L'
  | _ => False
theorem St.putObj {w0 w : World} {S : List Nat} {L1 L2 : List Ent} {b : Nat} {o : Obj} (h : St w0 S w (L1 ++ (b, o) :: L2)) (o' : Obj) : St w0 S (w.putObj b o') (L1 ++ (b, o') :: L2) := h.put o' rfl rfl rfl rfl
theorem St.mono_S {w0 w : World} {S S' : List Nat} {L : List Ent} (h : St w0 S w L) (hs : ∀ k ∈ S, k ∈ S') : St w0 S' w L :=
  ⟨h.os, h.tape, h.output, h.size, fun k hk hS => h.keep k hk (fun hm => hS (hs k hm)), h.own, fun p hp => (h.free p hp).imp (hs _) id, h.nodup⟩
/-- One round, out of the walk of its assignments and its body. -/
theorem yield_of_body {P : Program} {n l : Nat} {fn : Nat} {ρ : Env} {ds : Ds} {ps : Array Nat} {assign body : Code} {args : List Value} {w : World} {dfs : Nat} {Lx LB : List Ent} {I : List Ent → Prop} {Ix : Exit → List Ent → Prop} {Bd : Env → List Ent → Prop}
    (hown : ∀ p ∈ (l, Obj.loop { state := .ready, pending := none, fn, tmps := (act n ρ ds).tmps, params := ps, assign, body, defers := dfs }) :: (Lx ++ LB), w.heap[p.1]? = some p.2) (hnd : (keys ((l, Obj.loop { state := .ready, pending := none, fn, tmps := (act n ρ ds).tmps, params := ps, assign, body, defers := dfs }) :: (Lx ++ LB))).Nodup)
    (hsz : args.length = ps.size)
    (hassign : X ⟨P, some l, n, w, keys LB, false⟩ [.code assign, .hyp (fun ρ2 ds2 L2 => ds2 = [] ∧ Bd ρ2 L2)] (fun _ _ _ _ => False) (updP ρ ps.toList args) [] LB)
    (hbody : ∀ ρ2 L2 w2, Bd ρ2 L2 → St w (keys ((l, Obj.loop { state := .ready, pending := none, fn, tmps := (act n ρ ds).tmps, params := ps, assign, body, defers := dfs }) :: (Lx ++ LB))) w2 (L2 ++ (l, Obj.loop { state := .busy, pending := none, fn, tmps := (act n ρ ds).tmps, params := ps, assign, body, defers := dfs }) :: Lx) →
      X ⟨P, some l, n, w2, keys L2, false⟩ [.code body] (RoundQ I Ix) ρ2 [] L2) :
    YieldC P l args w ((l, Obj.loop { state := .ready, pending := none, fn, tmps := (act n ρ ds).tmps, params := ps, assign, body, defers := dfs }) :: (Lx ++ LB)) fun b L' => ∃ LB', (∃ e, (b = true ∧ e = Exit.normal ∧ I LB' ∨ b = false ∧ (e = .ret ∨ ∃ id, e = .exit id) ∧ Ix e LB') ∧
      L' = (l, Obj.loop { state := if (exJump e).isNone then .ready else .done, pending := exJump e, fn, tmps := (act n ρ ds).tmps, params := ps, assign, body, defers := dfs }) :: (Lx ++ LB')) := by
  obtain ⟨rec, hrec⟩ : ∃ rec : LoopState → Option Code → Loop, rec = fun st pe => { state := st, pending := pe, fn, tmps := (act n ρ ds).tmps, params := ps, assign, body, defers := dfs } := ⟨_, rfl⟩
  have hl : w.heap[l]? = some (.loop (rec .ready none)) := by rw [hrec]; exact hown _ (List.mem_cons_self)
  have hst0 : St w (keys ((l, Obj.loop (rec .ready none)) :: (Lx ++ LB))) w ((l, Obj.loop (rec .ready none)) :: (Lx ++ LB)) := by
    rw [hrec]; exact St.init hown hnd
  have hy := run_yield (P := P) (args := args.toArray) hl (by rw [hrec]; simpa using hsz)
  have htm : (ps.zip args.toArray).foldl (fun tmps (x : Nat × Value) => tmps.setIfInBounds x.1 x.2) (act n ρ ds).tmps = (act n (updP ρ ps.toList args) []).tmps := by
    rw [← Array.foldl_toList, Array.toList_zip]
    exact act_params n ds ps.toList args ρ
  refine ⟨fn, (act n (updP ρ ps.toList args) []).tmps, assign, body, ?_, ?_⟩
  · rw [hy, hrec]; simp only []; rw [← htm]
  refine roundIn_of_wpIn (F := FR none) trivial ?_
  -- the assignments
  have hLB : ∀ p ∈ LB, w.heap[p.1]? = some p.2 := fun p hp => hown p (List.mem_cons_of_mem _ (List.mem_append_right _ hp))
  have hndB : (keys LB).Nodup := by
    have : (keys LB).Sublist (keys ((l, Obj.loop (rec .ready none)) :: (Lx ++ LB))) := ((List.sublist_append_right Lx LB).cons _).map _
    rw [hrec] at this
    exact hnd.sublist this
  have ha := hassign w (St.init hLB hndB)
  refine wpIn_mono ha ?_
  rintro e a w1 ⟨ρ2, ds2, L2, rfl, hst2, hq⟩
  cases e with
  | normal =>
    obtain ⟨rfl, hbd⟩ := hq
    -- St of the whole behind the assignments
    have hp1 : ((l, Obj.loop (rec .ready none)) :: (Lx ++ LB)).Perm (LB ++ (l, Obj.loop (rec .ready none)) :: Lx) := by
      refine List.Perm.trans ?_ List.perm_append_comm
      simp
    have hst1 : St w (keys ((l, Obj.loop (rec .ready none)) :: (Lx ++ LB))) w1 (L2 ++ (l, Obj.loop (rec .ready none)) :: Lx) := (hst0.perm hp1.symm).comp hst2
    have hl1 : w1.heap[l]? = some (.loop (rec .ready none)) := hst1.own (l, _) (by simp)
    refine ⟨_, run_beginRound hl1 (by rw [hrec]), ?_⟩
    have hstb := hst1.putObj (.loop { rec .ready none with state := .busy })
    obtain ⟨w2, hw2⟩ : ∃ w2, w1.putObj l (.loop { rec .ready none with state := .busy }) = w2 := ⟨_, rfl⟩
    rw [hw2] at hstb ⊢
    have hL2 : ∀ p ∈ L2, w2.heap[p.1]? = some p.2 := fun p hp => hstb.own p (List.mem_append_left _ hp)
    have hnd2 : (keys L2).Nodup := hstb.nodup.sublist ((List.sublist_append_left _ _).map _)
    have hb := hbody ρ2 L2 w2 hbd (by rw [hrec] at hstb; exact hstb) w2 (St.init hL2 hnd2)
    refine wpIn_mono hb ?_
    rintro e a w3 ⟨ρ3, ds3, L3, rfl, hst3, hq3⟩
    have hst4 := hstb.comp hst3
    have hl3 : w3.heap[l]? = some (.loop { rec .ready none with state := .busy }) := hst4.own (l, _) (by simp)
    have fin : ∀ (L' : List Ent) (o : Obj), L'.Sublist L3 → St w (keys ((l, Obj.loop (rec .ready none)) :: (Lx ++ LB))) (w3.putObj l o) ((l, o) :: (Lx ++ L')) := by
      intro L' o hs
      have h5 := (hst4.putObj o).sub (hs.append_right ((l, o) :: Lx))
      refine h5.perm ?_
      refine List.Perm.trans ?_ List.perm_append_comm
      simp
    rw [hrec] at fin hl3
    cases e with
    | normal =>
      obtain ⟨L', hs, hi⟩ := hq3
      exact ⟨_, _, run_endRound none hl3, true, _, rfl, fin L' _ hs, L', .normal, .inl ⟨rfl, rfl, hi⟩, rfl⟩
    | ret =>
      obtain ⟨L', hs, hi⟩ := hq3
      exact ⟨_, _, run_endRound (some .ret) hl3, false, _, rfl, fin L' _ hs, L', .ret, .inr ⟨rfl, .inl rfl, hi⟩, rfl⟩
    | exit id =>
      obtain ⟨L', hs, hi⟩ := hq3
      exact ⟨_, _, run_endRound (some (.exit id)) hl3, false, _, rfl, fin L' _ hs, L', .exit id, .inr ⟨rfl, .inr ⟨id, rfl⟩, hi⟩, rfl⟩
    | goto t => exact hq3.elim
    | panic ch => exact hq3.elim
    | outgrown => exact hq3.elim
  | _ => exact hq.elim

theorem perm_r1 (a b : Ent) (B Lo Lr : List Ent) : (B ++ (Lr ++ (Lo ++ [a, b]))).Perm ((a :: ([b] ++ B) ++ Lo) ++ Lr) := by
  have e : ((a :: ([b] ++ B) ++ Lo) ++ Lr : List Ent) = [a, b] ++ (B ++ (Lo ++ Lr)) := by simp
  rw [e]
  refine List.Perm.trans ?_ List.perm_append_comm
  rw [List.append_assoc B, ← List.append_assoc Lr]
  exact List.Perm.append_left _ (List.Perm.append_right _ List.perm_append_comm)
theorem perm_r2 (a b : Ent) (L2 Lo Lr : List Ent) : (L2 ++ (Lr ++ (Lo ++ [a, b]))).Perm ((L2 ++ a :: [b]) ++ (Lo ++ Lr)) := by
  rw [List.append_assoc]
  refine List.Perm.append_left _ ?_
  refine List.Perm.trans ?_ List.perm_append_comm
  rw [← List.append_assoc Lr]
  exact List.Perm.append_right _ List.perm_append_comm
theorem perm_r3 (a : Ent) (B Lo Lr : List Ent) : (B ++ (Lr ++ (Lo ++ [a]))).Perm ((a :: ([] ++ B) ++ Lo) ++ Lr) := by
  have e : ((a :: ([] ++ B) ++ Lo) ++ Lr : List Ent) = [a] ++ (B ++ (Lo ++ Lr)) := by simp
  rw [e]
  refine List.Perm.trans ?_ List.perm_append_comm
  rw [List.append_assoc B, ← List.append_assoc Lr]
  exact List.Perm.append_left _ (List.Perm.append_right _ List.perm_append_comm)
theorem perm_r4 (a : Ent) (L2 Lo Lr : List Ent) : (L2 ++ (Lr ++ (Lo ++ [a]))).Perm ((L2 ++ [a]) ++ (Lo ++ Lr)) := by
  rw [List.append_assoc]
  refine List.Perm.append_left _ ?_
  refine List.Perm.trans ?_ List.perm_append_comm
  rw [← List.append_assoc Lr]
  exact List.Perm.append_right _ List.perm_append_comm
theorem exJump_out {e : Exit} (h : e = .ret ∨ ∃ id, e = .exit id) : exJump e = some (exCode e) := by
  rcases h with rfl | ⟨id, rfl⟩ <;> rfl
section
variable {c : Cx} {k : List KI} {Q : Po} {ρ : Env} {ds : Ds} {L : List Ent}
/-- **'for .. := range g': outside of every round.** 'LB': the blocks that the body may change; 'I': what holds of them when so much has come; 'Ix': where a round has been left by a way out; 'Bd': what the assignments to the loop's variables have made. -/
theorem X.rangeFunc {α : Type} {g : Operand} {ps : Array Nat} {assign body : Code} {gf : Nat} {lb : List Value} {encs : α → List Value} {Full : List α} {Av : List Nat} {LB Lr : List Ent} (I : List α → List Ent → Prop) (Ix : Exit → List α → List Ent → Prop) (Bd : List α → α → Env → List Ent → Prop)
    (hro : c.rd = none) (hg : evE c.n ρ g = .func (.func gf) #[] lb.toArray) (he : ∀ args w, (callFunc gf args).run c.P w = .ok (.enter gf args) w) (hL : L.Perm (LB ++ Lr))
    (hit : ∀ w Lm, St c.w0 c.S w (Lm ++ (LB ++ Lr)) → Iter c.P gf lb encs Full Av w) (hAv : ∀ k ∈ Av, k ∉ keys LB ∧ (k < c.w0.heap.size ∨ k ∈ keys Lr)) (hps : ∀ x, (encs x).length = ps.size) (h0 : I [] LB)
    (hassign : ∀ pre x rest LB' w l, Full = pre ++ x :: rest → I pre LB' → (∃ Lo, St c.w0 c.S w (LB' ++ (Lr ++ Lo))) → X ⟨c.P, some l, c.n, w, keys LB', false⟩ [.code assign, .hyp (fun ρ2 ds2 L2 => ds2 = [] ∧ Bd pre x ρ2 L2)] (fun _ _ _ _ => False) (updP ρ ps.toList (encs x)) [] LB')
    (hbody : ∀ pre x rest ρ2 L2 w2 l, Full = pre ++ x :: rest → Bd pre x ρ2 L2 → (∃ Lo, St c.w0 c.S w2 (L2 ++ (Lr ++ Lo))) → l ∉ keys L2 → (∃ r, w2.heap[l]? = some (.loop r)) →
      X ⟨c.P, some l, c.n, w2, keys L2, false⟩ [.code body] (RoundQ (I (pre ++ [x])) (fun e => Ix e (pre ++ [x]))) ρ2 [] L2)
    (hdone : ∀ LB' D, I Full LB' → X c k Q ρ ({ target := .collected D, args := #[] } :: ds) ((D, .deferred (some [])) :: (LB' ++ Lr)))
    (hstop : ∀ e pre x rest LB' D, Full = pre ++ x :: rest → (e = .ret ∨ ∃ id, e = .exit id) → Ix e (pre ++ [x]) LB' → X c (.code (exCode e) :: k) Q ρ ({ target := .collected D, args := #[] } :: ds) ((D, .deferred (some [])) :: (LB' ++ Lr))) :
    X c (.code (.rangeFunc g ps assign body) :: k) Q ρ ds L := by
  intro w hst0
  have hst := hst0.perm hL.symm
  refine wpIn_rangeFunc ?_
  intro fn hfn
  have hrd : (FR c.rd).round = none := by rw [hro]; rfl
  rw [hrd]
  obtain ⟨rec, hrec⟩ : ∃ rec : LoopState → Option Code → Loop, rec = fun st pe => { state := st, pending := pe, fn, tmps := (act c.n ρ ds).tmps, params := ps, assign, body, defers := w.heap.size } := ⟨_, rfl⟩
  obtain ⟨W1, hW1⟩ : ∃ W1, (w.alloc (.deferred (some []))).alloc (.loop (rec .ready none)) = W1 := ⟨_, rfl⟩
  have hstW : St c.w0 c.S W1 ((w.heap.size + 1, Obj.loop (rec .ready none)) :: ((w.heap.size, Obj.deferred (some [])) :: (LB ++ Lr))) := by
    rw [← hW1]
    have := (hst.alloc (.deferred (some []))).alloc (.loop (rec .ready none))
    rwa [World.size_alloc] at this
  have hlt : ∀ p ∈ LB ++ Lr, p.1 < w.heap.size := fun p hp => hst.lt hp
  refine ⟨w.heap.size + 1, [{ target := .collected w.heap.size, args := #[] }], W1, { target := .fn (.func gf) lb.toArray, args := #[.func (.yield (w.heap.size + 1)) #[] #[]] }, W1, gf,
    #[.func (.yield (w.heap.size + 1)) #[] #[]] ++ lb.toArray, W1, ?_, ?_, ?_, ?_, FR_depth _, ?_⟩
  · rw [← hW1, hrec]; exact run_enterLoop_outer _ _ _ _ _
  · rw [act_eval]; simp only [resolve, rangeCall, hg]; simp [Deferred.ofValue, evE]
  · intro f' hf'; exact FR_fn _ _
  · simp [invoke, he]
  obtain ⟨LJ, hLJ⟩ : ∃ LJ : List Ent, LJ = (w.heap.size + 1, Obj.loop (rec .ready none)) :: ([(w.heap.size, Obj.deferred (some []))] ++ LB) := ⟨_, rfl⟩
  have hstJ : St c.w0 c.S W1 (LJ ++ Lr) := by rw [hLJ]; simpa using hstW
  have hownJ : ∀ p ∈ LJ, W1.heap[p.1]? = some p.2 := fun p hp => hstJ.own p (List.mem_append_left _ hp)
  have hndJ : (keys LJ).Nodup := hstJ.nodup.sublist ((List.sublist_append_left _ _).map _)
  have hAvJ : ∀ k ∈ Av, k ∉ keys LJ := by
    intro k hk hm
    obtain ⟨h1, h2⟩ := hAv k hk
    have hkl : k < w.heap.size := by
      rcases h2 with h2 | h2
      · exact Nat.lt_of_lt_of_le h2 hst.size
      · obtain ⟨p, hp, rfl⟩ := List.mem_map.1 h2; exact hlt p (List.mem_append_right _ hp)
    rw [hLJ] at hm
    simp only [keys, List.map_cons, List.map_append, List.map_nil, List.mem_cons, List.mem_append, List.not_mem_nil, or_false] at hm
    rcases hm with hm | hm | hm
    · omega
    · omega
    · exact h1 hm
  have hcall := hit W1 [(w.heap.size + 1, Obj.loop (rec .ready none)), (w.heap.size, Obj.deferred (some []))] (by simpa using hstW) (w.heap.size + 1) LJ
    (fun pre LJ' => ∃ LB', LJ' = (w.heap.size + 1, Obj.loop (rec .ready none)) :: ([(w.heap.size, Obj.deferred (some []))] ++ LB') ∧ I pre LB')
    (fun pre LJ' => ∃ e LB', (e = Exit.ret ∨ ∃ id, e = Exit.exit id) ∧ LJ' = (w.heap.size + 1, Obj.loop (rec .done (exJump e))) :: ([(w.heap.size, Obj.deferred (some []))] ++ LB') ∧ Ix e pre LB')
    hownJ hndJ hAvJ ⟨LB, hLJ, h0⟩ ?_
  · have h1 : CallsIn (FR c.rd) 0 c.P gf (Value.func (Fn.yield (w.heap.size + 1)) #[] #[] :: lb).toArray W1 _ := hcall
    rw [show (#[Value.func (Fn.yield (w.heap.size + 1)) #[] #[]] ++ lb.toArray : Array Value) = (Value.func (Fn.yield (w.heap.size + 1)) #[] #[] :: lb).toArray from by simp]
    refine CallsIn.mono h1 ?_
    rintro e W2 ⟨v, L', rfl, hst2, LJ', Lo, rfl, hJ⟩
    have hst3 := hstJ.comp hst2
    rcases hJ with ⟨LB', rfl, hi⟩ | ⟨pre, x, rest, hF, e, LB', hex, rfl, hi⟩
    · have hl2 : W2.heap[w.heap.size + 1]? = some (.loop (rec .ready none)) := hst3.own (w.heap.size + 1, _) (by simp)
      have hr := run_endLoop (P := c.P) hl2 (by rw [hrec]; simp)
      rw [hrec] at hr
      refine ⟨none, _, hr, ⟨ρ, _, _, rfl, ?_, hdone LB' _ hi⟩⟩
      rw [hrec] at hst3
      have h4 := St.putObj (L1 := []) (by simpa using hst3) (.loop { state := .exhausted, pending := none, fn := fn, tmps := (act c.n ρ ds).tmps, params := ps, assign := assign, body := body, defers := w.heap.size })
      refine h4.sub ?_
      simp only [List.nil_append]
      refine List.Sublist.cons _ (List.Sublist.cons_cons _ ?_)
      exact (List.Sublist.refl LB').append (List.sublist_append_right Lo Lr)
    · have hl2 : W2.heap[w.heap.size + 1]? = some (.loop (rec .done (exJump e))) := hst3.own (w.heap.size + 1, _) (by simp)
      have hr := run_endLoop (P := c.P) hl2 (by rw [hrec]; simp)
      rw [hrec] at hr
      rw [exJump_out hex] at hr
      refine ⟨some (exCode e), _, hr, ?_⟩
      rw [hrec] at hst3
      have h4 := St.putObj (L1 := []) (by simpa using hst3) (.loop { state := .exhausted, pending := some (exCode e), fn := fn, tmps := (act c.n ρ ds).tmps, params := ps, assign := assign, body := body, defers := w.heap.size })
      have h5 := hstop e pre x rest LB' w.heap.size hF hex hi
      refine h5 _ (h4.sub ?_)
      simp only [List.nil_append]
      refine List.Sublist.cons _ (List.Sublist.cons_cons _ ?_)
      exact (List.Sublist.refl LB').append (List.sublist_append_right Lo Lr)
  · rintro pre x rest LJ' Lo w1 hF ⟨LB', rfl, hi⟩ hst1
    have hstc := (hstJ.comp hst1)
    have hown1 := fun p (hp : p ∈ (w.heap.size + 1, Obj.loop (rec .ready none)) :: ([(w.heap.size, Obj.deferred (some []))] ++ LB')) => hst1.own p (List.mem_append_left _ hp)
    have hnd1 : (keys ((w.heap.size + 1, Obj.loop (rec .ready none)) :: ([(w.heap.size, Obj.deferred (some []))] ++ LB'))).Nodup := hst1.nodup.sublist ((List.sublist_append_left _ _).map _)
    subst hrec
    dsimp only at hown1 hnd1 hstc ⊢
    have hy := yield_of_body (P := c.P) (n := c.n) (ρ := ρ) (ds := ds) (args := encs x) (I := I (pre ++ [x])) (Ix := fun e => Ix e (pre ++ [x])) (Bd := Bd pre x) hown1 hnd1 (hps x)
      (hassign pre x rest LB' w1 _ hF hi ⟨_, hstc.perm (perm_r1 _ _ LB' Lo Lr)⟩)
      (fun ρ2 L2 w2 hbd hst2 => by
        have h6 : St c.w0 c.S w2 _ := St.comp (Lr := Lo ++ Lr) (by simpa using hstc) hst2
        have hnl : w.heap.size + 1 ∉ keys L2 := by
          have := hst2.nodup
          rw [List.map_append, List.nodup_append] at this
          exact fun hm => this.2.2 _ hm (w.heap.size + 1) (by simp) rfl
        exact hbody pre x rest ρ2 L2 w2 (w.heap.size + 1) hF hbd ⟨_, h6.perm (perm_r2 _ _ L2 Lo Lr)⟩ hnl ⟨_, hst2.own _ (List.mem_append_right _ List.mem_cons_self)⟩)
    obtain ⟨fn', tm, as, bo, h1, h2⟩ := hy
    refine ⟨fn', tm, as, bo, h1, h2.mono ?_⟩
    rintro e W3 ⟨b, L', rfl, h3, LB'', ⟨e, h4, h5⟩⟩
    refine ⟨b, L', rfl, h3, ?_⟩
    rcases h4 with ⟨rfl, rfl, h6⟩ | ⟨rfl, hex, h6⟩
    · exact .inl ⟨rfl, LB'', h5, h6⟩
    · refine .inr ⟨rfl, e, LB'', hex, ?_, h6⟩
      rw [h5]
      rw [exJump_out hex]; rfl
/-- The same within a round of loop l₀. -/
theorem X.rangeFuncN {α : Type} {l₀ : Nat} {g : Operand} {ps : Array Nat} {assign body : Code} {gf : Nat} {lb : List Value} {encs : α → List Value} {Full : List α} {Av : List Nat} {LB Lr : List Ent} (I : List α → List Ent → Prop) (Ix : Exit → List α → List Ent → Prop) (Bd : List α → α → Env → List Ent → Prop)
    (hro : c.rd = some l₀) (hrec₀ : ∃ r, c.w0.heap[l₀]? = some (.loop r)) (hS₀ : l₀ ∉ c.S) (hg : evE c.n ρ g = .func (.func gf) #[] lb.toArray) (he : ∀ args w, (callFunc gf args).run c.P w = .ok (.enter gf args) w) (hL : L.Perm (LB ++ Lr))
    (hit : ∀ w Lm, St c.w0 c.S w (Lm ++ (LB ++ Lr)) → Iter c.P gf lb encs Full Av w) (hAv : ∀ k ∈ Av, k ∉ keys LB ∧ (k < c.w0.heap.size ∨ k ∈ keys Lr)) (hps : ∀ x, (encs x).length = ps.size) (h0 : I [] LB)
    (hassign : ∀ pre x rest LB' w l, Full = pre ++ x :: rest → I pre LB' → (∃ Lo, St c.w0 c.S w (LB' ++ (Lr ++ Lo))) → X ⟨c.P, some l, c.n, w, keys LB', false⟩ [.code assign, .hyp (fun ρ2 ds2 L2 => ds2 = [] ∧ Bd pre x ρ2 L2)] (fun _ _ _ _ => False) (updP ρ ps.toList (encs x)) [] LB')
    (hbody : ∀ pre x rest ρ2 L2 w2 l, Full = pre ++ x :: rest → Bd pre x ρ2 L2 → (∃ Lo, St c.w0 c.S w2 (L2 ++ (Lr ++ Lo))) → l ∉ keys L2 → (∃ r, w2.heap[l]? = some (.loop r)) →
      X ⟨c.P, some l, c.n, w2, keys L2, false⟩ [.code body] (RoundQ (I (pre ++ [x])) (fun e => Ix e (pre ++ [x]))) ρ2 [] L2)
    (hdone : ∀ LB', I Full LB' → X c k Q ρ ds (LB' ++ Lr))
    (hstop : ∀ e pre x rest LB', Full = pre ++ x :: rest → (e = .ret ∨ ∃ id, e = .exit id) → Ix e (pre ++ [x]) LB' → X c (.code (exCode e) :: k) Q ρ ds (LB' ++ Lr)) :
    X c (.code (.rangeFunc g ps assign body) :: k) Q ρ ds L := by
  intro w hst0
  have hst := hst0.perm hL.symm
  refine wpIn_rangeFunc ?_
  intro fn hfn
  have hrd : (FR c.rd).round = some l₀ := by rw [hro]; rfl
  obtain ⟨r₀, hr₀⟩ := hrec₀
  have hw₀ : w.heap[l₀]? = some (.loop r₀) := by rw [hst.keep l₀ (Array.getElem?_eq_some_iff.1 hr₀).1 hS₀]; exact hr₀
  rw [hrd]
  obtain ⟨rec, hrec⟩ : ∃ rec : LoopState → Option Code → Loop, rec = fun st pe => { state := st, pending := pe, fn, tmps := (act c.n ρ ds).tmps, params := ps, assign, body, defers := r₀.defers } := ⟨_, rfl⟩
  obtain ⟨W1, hW1⟩ : ∃ W1, w.alloc (.loop (rec .ready none)) = W1 := ⟨_, rfl⟩
  have hstW : St c.w0 c.S W1 ((w.heap.size, Obj.loop (rec .ready none)) :: (LB ++ Lr)) := by
    rw [← hW1]
    exact hst.alloc (.loop (rec .ready none))
  have hlt : ∀ p ∈ LB ++ Lr, p.1 < w.heap.size := fun p hp => hst.lt hp
  refine ⟨w.heap.size, [], W1, { target := .fn (.func gf) lb.toArray, args := #[.func (.yield (w.heap.size)) #[] #[]] }, W1, gf,
    #[.func (.yield (w.heap.size)) #[] #[]] ++ lb.toArray, W1, ?_, ?_, ?_, ?_, FR_depth _, ?_⟩
  · rw [← hW1, hrec]; exact run_enterLoop_inner hw₀ _ _ _ _ _
  · rw [act_eval]; simp only [resolve, rangeCall, hg]; simp [Deferred.ofValue, evE]
  · intro f' hf'; exact FR_fn _ _
  · simp [invoke, he]
  obtain ⟨LJ, hLJ⟩ : ∃ LJ : List Ent, LJ = (w.heap.size, Obj.loop (rec .ready none)) :: ([] ++ LB) := ⟨_, rfl⟩
  have hstJ : St c.w0 c.S W1 (LJ ++ Lr) := by rw [hLJ]; simpa using hstW
  have hownJ : ∀ p ∈ LJ, W1.heap[p.1]? = some p.2 := fun p hp => hstJ.own p (List.mem_append_left _ hp)
  have hndJ : (keys LJ).Nodup := hstJ.nodup.sublist ((List.sublist_append_left _ _).map _)
  have hAvJ : ∀ k ∈ Av, k ∉ keys LJ := by
    intro k hk hm
    obtain ⟨h1, h2⟩ := hAv k hk
    have hkl : k < w.heap.size := by
      rcases h2 with h2 | h2
      · exact Nat.lt_of_lt_of_le h2 hst.size
      · obtain ⟨p, hp, rfl⟩ := List.mem_map.1 h2; exact hlt p (List.mem_append_right _ hp)
    rw [hLJ] at hm
    simp only [keys, List.map_cons, List.map_append, List.map_nil, List.mem_cons, List.mem_append, List.not_mem_nil, or_false] at hm
    rcases hm with hm | hm | hm
    · omega
    · exact hm.elim
    · exact h1 hm
  have hcall := hit W1 [(w.heap.size, Obj.loop (rec .ready none))] (by simpa using hstW) (w.heap.size) LJ
    (fun pre LJ' => ∃ LB', LJ' = (w.heap.size, Obj.loop (rec .ready none)) :: ([] ++ LB') ∧ I pre LB')
    (fun pre LJ' => ∃ e LB', (e = Exit.ret ∨ ∃ id, e = Exit.exit id) ∧ LJ' = (w.heap.size, Obj.loop (rec .done (exJump e))) :: ([] ++ LB') ∧ Ix e pre LB')
    hownJ hndJ hAvJ ⟨LB, hLJ, h0⟩ ?_
  · have h1 : CallsIn (FR c.rd) 0 c.P gf (Value.func (Fn.yield (w.heap.size)) #[] #[] :: lb).toArray W1 _ := hcall
    rw [show (#[Value.func (Fn.yield (w.heap.size)) #[] #[]] ++ lb.toArray : Array Value) = (Value.func (Fn.yield (w.heap.size)) #[] #[] :: lb).toArray from by simp]
    refine CallsIn.mono h1 ?_
    rintro e W2 ⟨v, L', rfl, hst2, LJ', Lo, rfl, hJ⟩
    have hst3 := hstJ.comp hst2
    rcases hJ with ⟨LB', rfl, hi⟩ | ⟨pre, x, rest, hF, e, LB', hex, rfl, hi⟩
    · have hl2 : W2.heap[w.heap.size]? = some (.loop (rec .ready none)) := hst3.own (w.heap.size, _) (by simp)
      have hr := run_endLoop (P := c.P) hl2 (by rw [hrec]; simp)
      rw [hrec] at hr
      refine ⟨none, _, hr, ⟨ρ, _, _, rfl, ?_, hdone LB' hi⟩⟩
      rw [hrec] at hst3
      have h4 := St.putObj (L1 := []) (by simpa using hst3) (.loop { state := .exhausted, pending := none, fn := fn, tmps := (act c.n ρ ds).tmps, params := ps, assign := assign, body := body, defers := r₀.defers })
      refine h4.sub ?_
      simp only [List.nil_append]
      refine List.Sublist.cons _ ?_
      exact (List.Sublist.refl LB').append (List.sublist_append_right Lo Lr)
    · have hl2 : W2.heap[w.heap.size]? = some (.loop (rec .done (exJump e))) := hst3.own (w.heap.size, _) (by simp)
      have hr := run_endLoop (P := c.P) hl2 (by rw [hrec]; simp)
      rw [hrec] at hr
      rw [exJump_out hex] at hr
      refine ⟨some (exCode e), _, hr, ?_⟩
      rw [hrec] at hst3
      have h4 := St.putObj (L1 := []) (by simpa using hst3) (.loop { state := .exhausted, pending := some (exCode e), fn := fn, tmps := (act c.n ρ ds).tmps, params := ps, assign := assign, body := body, defers := r₀.defers })
      have h5 := hstop e pre x rest LB' hF hex hi
      refine h5 _ (h4.sub ?_)
      simp only [List.nil_append]
      refine List.Sublist.cons _ ?_
      exact (List.Sublist.refl LB').append (List.sublist_append_right Lo Lr)
  · rintro pre x rest LJ' Lo w1 hF ⟨LB', rfl, hi⟩ hst1
    have hstc := (hstJ.comp hst1)
    have hown1 := fun p (hp : p ∈ (w.heap.size, Obj.loop (rec .ready none)) :: ([] ++ LB')) => hst1.own p (List.mem_append_left _ hp)
    have hnd1 : (keys ((w.heap.size, Obj.loop (rec .ready none)) :: ([] ++ LB'))).Nodup := hst1.nodup.sublist ((List.sublist_append_left _ _).map _)
    subst hrec
    dsimp only at hown1 hnd1 hstc ⊢
    have hy := yield_of_body (P := c.P) (n := c.n) (ρ := ρ) (ds := ds) (args := encs x) (I := I (pre ++ [x])) (Ix := fun e => Ix e (pre ++ [x])) (Bd := Bd pre x) hown1 hnd1 (hps x)
      (hassign pre x rest LB' w1 _ hF hi ⟨_, hstc.perm (perm_r3 _ LB' Lo Lr)⟩)
      (fun ρ2 L2 w2 hbd hst2 => by
        have h6 : St c.w0 c.S w2 _ := St.comp (Lr := Lo ++ Lr) (by simpa using hstc) hst2
        have hnl : w.heap.size ∉ keys L2 := by
          have := hst2.nodup
          rw [List.map_append, List.nodup_append] at this
          exact fun hm => this.2.2 _ hm (w.heap.size) (by simp) rfl
        exact hbody pre x rest ρ2 L2 w2 (w.heap.size) hF hbd ⟨_, h6.perm (perm_r4 _ L2 Lo Lr)⟩ hnl ⟨_, hst2.own _ (List.mem_append_right _ List.mem_cons_self)⟩)
    obtain ⟨fn', tm, as, bo, h1, h2⟩ := hy
    refine ⟨fn', tm, as, bo, h1, h2.mono ?_⟩
    rintro e W3 ⟨b, L', rfl, h3, LB'', ⟨e, h4, h5⟩⟩
    refine ⟨b, L', rfl, h3, ?_⟩
    rcases h4 with ⟨rfl, rfl, h6⟩ | ⟨rfl, hex, h6⟩
    · exact .inl ⟨rfl, LB'', h5, h6⟩
    · refine .inr ⟨rfl, e, LB'', hex, ?_, h6⟩
      rw [h5]
      rw [exJump_out hex]; rfl
end
/-! The way out of a function that holds a range over a function at its top: the mark. -/
section
variable {c : Cx} {fn : Func} {R : Value → List Ent → Prop} {ρ : Env} {L : List Ent} {D : Nat}
theorem leaves_mark {v : Value} (hv : ∀ w, St c.w0 c.S w L → (results fn (act c.n ρ []).tmps).run c.P w = .ok v w) (h : R v L) (w : World) (hw : St c.w0 c.S w ((D, .deferred (some [])) :: L)) :
    LeavesInM (FR none) 0 c.P fn (act c.n ρ [{ target := .collected D, args := #[] }]).tmps (fun e w' => ∃ v L', e = .returned v ∧ St c.w0 c.S w' L' ∧ R v L') [{ target := .collected D, args := #[] }] .returning w := by
  have h1 := St.putObj (L1 := []) (L2 := L) hw (.deferred none)
  have h2 : St c.w0 c.S (w.putObj D (.deferred none)) L := h1.sub (List.Sublist.cons _ (List.Sublist.refl _))
  refine ⟨by simp, .inl ⟨D, _, rfl, run_takeDeferred (hw.own (D, _) List.mem_cons_self), ?_⟩⟩
  exact ⟨v, hv _ h2, v, L, rfl, h2, h⟩
theorem retm1 {t : Nat} (hr : fn.results = #[.tmp t]) (h : withV (evE c.n ρ (.tmp t)) fun v => R v L) : RetQ c fn R .ret ρ [{ target := .collected D, args := #[] }] ((D, .deferred (some [])) :: L) :=
  leaves_mark (fun w _ => by rw [res1 hr]) (by rw [withV_eq] at h; exact h)
theorem retm2 {t u : Nat} (hr : fn.results = #[.tmp t, .tmp u]) (h : withV (evE c.n ρ (.tmp t)) fun v1 => withV (evE c.n ρ (.tmp u)) fun v2 => R (.tuple #[v1, v2]) L) : RetQ c fn R .ret ρ [{ target := .collected D, args := #[] }] ((D, .deferred (some [])) :: L) :=
  leaves_mark (fun w _ => by rw [res2 hr]) (by simp only [withV_eq] at h; exact h)
end
end Go.Proofs.YtgmlbaffghogaaaGreatDoor
