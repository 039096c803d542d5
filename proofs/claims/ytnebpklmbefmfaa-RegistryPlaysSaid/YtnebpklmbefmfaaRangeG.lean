/- SYM: a range over a function whose values are made on the way: what a round is given may bring blocks of its own. -/
import Derived.Test.YtnebpklmbefmfaaSymRange
import Derived.Test.YtnebpklmbefmfaaSymMore
set_option linter.unusedVariables false
set_option linter.unusedSimpArgs false
namespace Go.Proofs.Ytnebpklmbefmfaa
open Go.RowKit
/-- An iterator's word, where what is given to a round (vals, with the blocks Lx) is whatever 'E' says of the element. -/
def IterG {α : Type} (P : Program) (gf : FuncId) (lb : List Value) (E : α → List Value → List Ent → Prop) (Full : List α) (Av : List Nat) (w : World) : Prop :=
  ∀ (l : Nat) (LJ : List Ent) (J Jx : List α → List Ent → Prop), (∀ p ∈ LJ, w.heap[p.1]? = some p.2) → (keys LJ).Nodup → (∀ k ∈ Av, k ∉ keys LJ) → J [] LJ →
    (∀ pre x rest LJ' Lx vals Lo w1, Full = pre ++ x :: rest → J pre LJ' → E x vals Lx → St w (keys LJ) w1 ((LJ' ++ Lx) ++ Lo) →
      YieldC P l vals w1 (LJ' ++ Lx) fun b L' => (b = true ∧ J (pre ++ [x]) L') ∨ (b = false ∧ Jx (pre ++ [x]) L')) →
    Ctr P gf (.func (.yield l) #[] #[] :: lb) w LJ fun _ L' => ∃ LJ' Lo, L' = LJ' ++ Lo ∧ (J Full LJ' ∨ ∃ pre x rest, Full = pre ++ x :: rest ∧ Jx (pre ++ [x]) LJ')
section
variable {c : Cx} {k : List KI} {Q : Po} {ρ : Env} {ds : Ds} {L : List Ent}
theorem X.rangeFuncG {α : Type} {g : Operand} {ps : Array Nat} {assign body : Code} {gf : Nat} {lb : List Value} {E : α → List Value → List Ent → Prop} {Full : List α} {Av : List Nat} {LB Lr : List Ent} (I : List α → List Ent → Prop) (Ix : Exit → List α → List Ent → Prop) (Bd : List α → α → Env → List Ent → Prop)
    (hro : c.rd = none) (hg : evE c.n ρ g = .func (.func gf) #[] lb.toArray) (he : ∀ args w, (callFunc gf args).run c.P w = .ok (.enter gf args) w) (hL : L.Perm (LB ++ Lr))
    (hit : ∀ w Lm, St c.w0 c.S w (Lm ++ (LB ++ Lr)) → IterG c.P gf lb E Full Av w) (hAv : ∀ k ∈ Av, k ∉ keys LB ∧ (k < c.w0.heap.size ∨ k ∈ keys Lr)) (hps : ∀ x vals Lx, E x vals Lx → vals.length = ps.size) (h0 : I [] LB)
    (hassign : ∀ pre x rest LB' Lx vals w l, Full = pre ++ x :: rest → I pre LB' → E x vals Lx → (∃ Lo, St c.w0 c.S w ((LB' ++ Lx) ++ (Lr ++ Lo))) → X ⟨c.P, some l, c.n, w, keys (LB' ++ Lx), false⟩ [.code assign, .hyp (fun ρ2 ds2 L2 => ds2 = [] ∧ Bd pre x ρ2 L2)] (fun _ _ _ _ => False) (updP ρ ps.toList vals) [] (LB' ++ Lx))
    (hbody : ∀ pre x rest ρ2 L2 w2 l, Full = pre ++ x :: rest → Bd pre x ρ2 L2 → (∃ Lo, St c.w0 c.S w2 (L2 ++ (Lr ++ Lo))) → l ∉ keys L2 → (∃ r, w2.heap[l]? = some (.loop r)) →
      X ⟨c.P, some l, c.n, w2, keys L2, false⟩ [.code body] (RoundQ (I (pre ++ [x])) (fun e => Ix e (pre ++ [x]))) ρ2 [] L2)
    (hdone : ∀ LB' D, I Full LB' → X c k Q ρ ({ target := .collected D, args := #[] } :: ds) ((D, .deferred (some [])) :: (LB' ++ Lr)))
    (hstop : ∀ e pre x rest LB' D, Full = pre ++ x :: rest → (e = .ret ∨ ∃ id, e = .exit id) → Ix e (pre ++ [x]) LB' → X c (.code (exCode e) :: k) Q ρ ({ target := .collected D, args := #[] } :: ds) ((D, .deferred (some [])) :: (LB' ++ Lr))) :
    X c (.code (.rangeFunc g ps assign body) :: k) Q ρ ds L := by
  intro w hst0
  have hst := hst0.perm hL.symm
  refine wpIn_rangeFunc ?_
  intro fn hfn
  have hrd : (FR c.rd).round = none := by rw [hro]; rfl
  rw [hrd]
  obtain ⟨rec, hrec⟩ : ∃ rec : LoopState → Option Code → Loop, rec = fun st pe => { state := st, pending := pe, fn, tmps := (act c.n ρ ds).tmps, params := ps, assign, body, defers := w.heap.size } := ⟨_, rfl⟩
  obtain ⟨W1, hW1⟩ : ∃ W1, (w.alloc (.deferred (some []))).alloc (.loop (rec .ready none)) = W1 := ⟨_, rfl⟩
  have hstW : St c.w0 c.S W1 ((w.heap.size + 1, Obj.loop (rec .ready none)) :: ((w.heap.size, Obj.deferred (some [])) :: (LB ++ Lr))) := by
    rw [← hW1]
    have := (hst.alloc (.deferred (some []))).alloc (.loop (rec .ready none))
    rwa [World.size_alloc] at this
  have hlt : ∀ p ∈ LB ++ Lr, p.1 < w.heap.size := fun p hp => hst.lt hp
  refine ⟨w.heap.size + 1, [{ target := .collected w.heap.size, args := #[] }], W1, { target := .fn (.func gf) lb.toArray, args := #[.func (.yield (w.heap.size + 1)) #[] #[]] }, W1, gf,
    #[.func (.yield (w.heap.size + 1)) #[] #[]] ++ lb.toArray, W1, ?_, ?_, ?_, ?_, FR_depth _, ?_⟩
  · rw [← hW1, hrec]; exact run_enterLoop_outer _ _ _ _ _
  · rw [act_eval]; simp only [resolve, rangeCall, hg]; simp [Deferred.ofValue, evE]
  · intro f' hf'; exact FR_fn _ _
  · simp [invoke, he]
  obtain ⟨LJ, hLJ⟩ : ∃ LJ : List Ent, LJ = (w.heap.size + 1, Obj.loop (rec .ready none)) :: ([(w.heap.size, Obj.deferred (some []))] ++ LB) := ⟨_, rfl⟩
  have hstJ : St c.w0 c.S W1 (LJ ++ Lr) := by rw [hLJ]; simpa using hstW
  have hownJ : ∀ p ∈ LJ, W1.heap[p.1]? = some p.2 := fun p hp => hstJ.own p (List.mem_append_left _ hp)
  have hndJ : (keys LJ).Nodup := hstJ.nodup.sublist ((List.sublist_append_left _ _).map _)
  have hAvJ : ∀ k ∈ Av, k ∉ keys LJ := by
    intro k hk hm
    obtain ⟨h1, h2⟩ := hAv k hk
    have hkl : k < w.heap.size := by
      rcases h2 with h2 | h2
      · exact Nat.lt_of_lt_of_le h2 hst.size
      · obtain ⟨p, hp, rfl⟩ := List.mem_map.1 h2; exact hlt p (List.mem_append_right _ hp)
    rw [hLJ] at hm
    simp only [keys, List.map_cons, List.map_append, List.map_nil, List.mem_cons, List.mem_append, List.not_mem_nil, or_false] at hm
    rcases hm with hm | hm | hm
    · omega
    · omega
    · exact h1 hm
  have hcall := hit W1 [(w.heap.size + 1, Obj.loop (rec .ready none)), (w.heap.size, Obj.deferred (some []))] (by simpa using hstW) (w.heap.size + 1) LJ
    (fun pre LJ' => ∃ LB', LJ' = (w.heap.size + 1, Obj.loop (rec .ready none)) :: ([(w.heap.size, Obj.deferred (some []))] ++ LB') ∧ I pre LB')
    (fun pre LJ' => ∃ e LB', (e = Exit.ret ∨ ∃ id, e = Exit.exit id) ∧ LJ' = (w.heap.size + 1, Obj.loop (rec .done (exJump e))) :: ([(w.heap.size, Obj.deferred (some []))] ++ LB') ∧ Ix e pre LB')
    hownJ hndJ hAvJ ⟨LB, hLJ, h0⟩ ?_
  · have h1 : CallsIn (FR c.rd) 0 c.P gf (Value.func (Fn.yield (w.heap.size + 1)) #[] #[] :: lb).toArray W1 _ := hcall
    rw [show (#[Value.func (Fn.yield (w.heap.size + 1)) #[] #[]] ++ lb.toArray : Array Value) = (Value.func (Fn.yield (w.heap.size + 1)) #[] #[] :: lb).toArray from by simp]
    refine CallsIn.mono h1 ?_
    rintro e W2 ⟨v, L', rfl, hst2, LJ', Lo, rfl, hJ⟩
    have hst3 := hstJ.comp hst2
    rcases hJ with ⟨LB', rfl, hi⟩ | ⟨pre, x, rest, hF, e, LB', hex, rfl, hi⟩
    · have hl2 : W2.heap[w.heap.size + 1]? = some (.loop (rec .ready none)) := hst3.own (w.heap.size + 1, _) (by simp)
      have hr := run_endLoop (P := c.P) hl2 (by rw [hrec]; simp)
      rw [hrec] at hr
      refine ⟨none, _, hr, ⟨ρ, _, _, rfl, ?_, hdone LB' _ hi⟩⟩
      rw [hrec] at hst3
      have h4 := St.putObj (L1 := []) (by simpa using hst3) (.loop { state := .exhausted, pending := none, fn := fn, tmps := (act c.n ρ ds).tmps, params := ps, assign := assign, body := body, defers := w.heap.size })
      refine h4.sub ?_
      simp only [List.nil_append]
      refine List.Sublist.cons _ (List.Sublist.cons_cons _ ?_)
      exact (List.Sublist.refl LB').append (List.sublist_append_right Lo Lr)
    · have hl2 : W2.heap[w.heap.size + 1]? = some (.loop (rec .done (exJump e))) := hst3.own (w.heap.size + 1, _) (by simp)
      have hr := run_endLoop (P := c.P) hl2 (by rw [hrec]; simp)
      rw [hrec] at hr
      rw [exJump_out hex] at hr
      refine ⟨some (exCode e), _, hr, ?_⟩
      rw [hrec] at hst3
      have h4 := St.putObj (L1 := []) (by simpa using hst3) (.loop { state := .exhausted, pending := some (exCode e), fn := fn, tmps := (act c.n ρ ds).tmps, params := ps, assign := assign, body := body, defers := w.heap.size })
      have h5 := hstop e pre x rest LB' w.heap.size hF hex hi
      refine h5 _ (h4.sub ?_)
      simp only [List.nil_append]
      refine List.Sublist.cons _ (List.Sublist.cons_cons _ ?_)
      exact (List.Sublist.refl LB').append (List.sublist_append_right Lo Lr)
  · rintro pre x rest LJ' Lx vals Lo w1 hF ⟨LB0, rfl, hi⟩ hE hst1
    obtain ⟨LB', hLB⟩ : ∃ LB', LB' = LB0 ++ Lx := ⟨_, rfl⟩
    have hap : ((w.heap.size + 1, Obj.loop (rec .ready none)) :: ([(w.heap.size, Obj.deferred (some []))] ++ LB0)) ++ Lx = (w.heap.size + 1, Obj.loop (rec .ready none)) :: ([(w.heap.size, Obj.deferred (some []))] ++ LB') := by rw [hLB]; simp
    rw [hap] at hst1 ⊢
    have hstc := (hstJ.comp hst1)
    have hown1 := fun p (hp : p ∈ (w.heap.size + 1, Obj.loop (rec .ready none)) :: ([(w.heap.size, Obj.deferred (some []))] ++ LB')) => hst1.own p (List.mem_append_left _ hp)
    have hnd1 : (keys ((w.heap.size + 1, Obj.loop (rec .ready none)) :: ([(w.heap.size, Obj.deferred (some []))] ++ LB'))).Nodup := hst1.nodup.sublist ((List.sublist_append_left _ _).map _)
    subst hrec
    dsimp only at hown1 hnd1 hstc ⊢
    have hy := yield_of_body (P := c.P) (n := c.n) (ρ := ρ) (ds := ds) (args := vals) (I := I (pre ++ [x])) (Ix := fun e => Ix e (pre ++ [x])) (Bd := Bd pre x) hown1 hnd1 (hps x vals Lx hE)
      (by rw [hLB] at hstc ⊢; exact hassign pre x rest LB0 Lx vals w1 _ hF hi hE ⟨_, hstc.perm (perm_r1 _ _ (LB0 ++ Lx) Lo Lr)⟩)
      (fun ρ2 L2 w2 hbd hst2 => by
        have h6 : St c.w0 c.S w2 _ := St.comp (Lr := Lo ++ Lr) (by simpa using hstc) hst2
        have hnl : w.heap.size + 1 ∉ keys L2 := by
          have := hst2.nodup
          rw [List.map_append, List.nodup_append] at this
          exact fun hm => this.2.2 _ hm (w.heap.size + 1) (by simp) rfl
        exact hbody pre x rest ρ2 L2 w2 (w.heap.size + 1) hF hbd ⟨_, h6.perm (perm_r2 _ _ L2 Lo Lr)⟩ hnl ⟨_, hst2.own _ (List.mem_append_right _ List.mem_cons_self)⟩)
    obtain ⟨fn', tm, as, bo, h1, h2⟩ := hy
    refine ⟨fn', tm, as, bo, h1, h2.mono ?_⟩
    rintro e W3 ⟨b, L', rfl, h3, LB'', ⟨e, h4, h5⟩⟩
    refine ⟨b, L', rfl, h3, ?_⟩
    rcases h4 with ⟨rfl, rfl, h6⟩ | ⟨rfl, hex, h6⟩
    · exact .inl ⟨rfl, LB'', h5, h6⟩
    · refine .inr ⟨rfl, e, LB'', hex, ?_, h6⟩
      rw [h5]
      rw [exJump_out hex]; rfl
end
end Go.Proofs.Ytnebpklmbefmfaa
