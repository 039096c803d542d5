/- EV, proved right, part 19: regions that draw their order. · EV, proved right, part 20: heaps given by what is known of each name. · EV, proved right, part 21: the rows of a region that draws its order. · EV, proved right, part 22: what is known along a region that draws its order. -/
import Derived.Test.YtgmlbaffghogaaaGreatDoorEvW
/-! EV, proved right, part 19: regions that draw their order. -/
set_option linter.unusedVariables false
set_option linter.unusedSimpArgs false
namespace Go.Proofs.YtgmlbaffghogaaaGreatDoor
open Go.RowKit
/-- What an operation makes that makes a block and reads none. -/
structure IsNew (P : Program) (f : Operand → Value) (o : Oper) (σ : Sg) (nx : Nm) (v : V) (X : O) : Prop where
  ex : ∃ ob cap, ∃ val : Nat → Value, OR σ cap X ob ∧ (∀ b, okV (σ.ext nx (b, cap)) v (val b)) ∧ ∀ w, (execOp f o).run P w = .ok (.value (val w.heap.size)) (w.alloc ob)
/-- What the evaluator has made of it. -/
def NewR (P : Program) (n : Nat) (env : En) (h : Hp) (nx : Nm) (env' : En) (h' : Hp) (o : Oper) : Prop :=
  ∃ v X, env' = put (dstP n o.dst) v env ∧ h' = set8 nx (some X) h ∧ ∀ σ f, OpsOk σ n env f o.op.operands → IsNew P f o σ nx v X
section
variable {P : Program} {nx : Nm} {h : Hp} {n : Nat} {env : En} {dd : List D}
variable {d : Option Nat} {ty : TypeId} {pos : String} {af : Array Edge} {g : Option (Nat × Bool)} {ih : Ih} {x y z : Operand} {t t' : TypeId}
variable {e' : Ex} {env' : En} {h' : Hp} {nx1 : Nm} {dd' : List D}
theorem new_new {z : List S} (hz : zeroL P t = some z) (hr : r_new (dstP n d) t z ih endK env h nx dd = .C e' env' h' nx1 dd') : NewR P n env h nx env' h' ⟨d, .alloc t, ty, pos, af, g⟩ := by
  obtain ⟨nx', h1, h2⟩ := newK_ok hr (fun n => by simp)
  injection h2 with a1 a2 a3 a4 a5; subst a2 a3
  refine ⟨_, _, rfl, rfl, fun σ f hE => ?_⟩
  obtain ⟨v, h3, h4⟩ := zeroL_ok (σ := σ) hz
  exact ⟨_, 0, _, .cells h3, fun b => okV_new b 0, fun w => by simp [execOp, Instr.alloc, Sem.run_bind, h4, newVar, newRow]⟩
theorem new_box (hr : r_box (dstP n d) t (trA n x) ih endK env h nx dd = .C e' env' h' nx1 dd') : NewR P n env h nx env' h' ⟨d, .box t x, ty, pos, af, g⟩ := by
  obtain ⟨v, h1, h2⟩ := onV_ok hr (fun n => by simp)
  obtain ⟨cs, h3, h4⟩ := onV_ok h2 (fun n => by simp)
  obtain ⟨nx', h5, h6⟩ := newK_ok h4 (fun n => by simp)
  injection h6 with a1 a2 a3 a4 a5; subst a2 a3
  refine ⟨_, _, rfl, rfl, fun σ f hE => ?_⟩
  obtain ⟨vs, h7, h8⟩ := vcells_ok h3 (hE x (by simp [Op.operands]) _ h1)
  exact ⟨_, 0, _, .cells h7, fun b => okV_new b 0, fun w => by simp [execOp, Instr.box, Sem.run_bind, newVar, newRow, h8]⟩
theorem new_mkm (hr : r_mkm (dstP n d) ih endK env h nx dd = .C e' env' h' nx1 dd') : NewR P n env h nx env' h' ⟨d, .makeMap t none, ty, pos, af, g⟩ := by
  obtain ⟨nx', h1, h2⟩ := newK_ok hr (fun n => by simp)
  injection h2 with a1 a2 a3 a4 a5; subst a2 a3
  exact ⟨_, _, rfl, rfl, fun σ f hE => ⟨.map #[] 0, 0, fun b => .map (some b), ⟨[], trivial, rfl⟩, fun b => ⟨b, 0, Sg.ext_same _ _, rfl⟩, fun w => by simp [execOp, Instr.makeMap, Sem.run_bind]⟩⟩
theorem new_bsl {e q s : Nat} {ps : Array (Nat × Operand)} {z : List S} (hu : P.underlying t = some (.slice e)) (hz : zeroL P e = some z) (hs : szT P e = some s) (hl : z.length = s) (hq : q * s ≤ 1000000) (hr : r_bsl (dstP n d) e q z (partsA n s ps.toList) ih endK env h nx dd = .C e' env' h' nx1 dd') : NewR P n env h nx env' h' ⟨d, .buildSlice t q ps, ty, pos, af, g⟩ := by
  obtain ⟨cs, h1, h2⟩ := onV_ok hr (fun n => by simp)
  obtain ⟨nx', h5, h6⟩ := newK_ok h2 (fun n => by simp)
  injection h6 with a1 a2 a3 a4 a5; subst a2 a3
  refine ⟨_, _, rfl, rfl, fun σ f hE => ?_⟩
  obtain ⟨v, h3, h4⟩ := zeroL_ok (σ := σ) hz
  obtain ⟨vc, h7, h8⟩ := fillA_ok (place := fun i => some (i * s, s)) (ps := ps.toList) (partsA_ok s ps.toList) (fun p hp' => hE p.2 (by simp [Op.operands]; exact ⟨p.1, by simpa using hp'⟩)) (rep_ok h3 q) h1
  have hl' : v.cells.toList.length = s := by rw [← h3.length]; exact hl
  refine ⟨_, 0, fun b => .slice (some ⟨b, 0, none⟩) q q, .cells (q := e) h7, fun b => ⟨b, 0, Sg.ext_same _ _, rfl⟩, fun w => ?_⟩
  have e1 : (ps.map fun (x : Nat × Operand) => (x.1, f x.2)).toList = ps.toList.map fun p => (p.1, f p.2) := by simp
  have hc : ¬ (q * s > 2 ^ 24) := by omega
  have hcell : ∀ zz : Value, (zz = v ∨ q * s = 0) → (if q * s = 0 then (#[] : Array Value) else zz.cells) = (if q * s = 0 then #[] else v.cells) := fun zz hzz => by
    by_cases h0 : q * s = 0
    · simp [h0]
    · rcases hzz with rfl | h1
      · rfl
      · exact absurd h1 h0
  by_cases h0 : q * s = 0
  · have hrow : ((Array.range (q * s)).map fun i => (#[] : Array Value)[i % (#[] : Array Value).size]!) = ((List.replicate q v.cells.toList).flatten).toArray := by
      have hl2 : v.cells.size = s := by simpa using hl'
      have : ((List.replicate q v.cells.toList).flatten).length = 0 := by
        have : ((List.replicate q v.cells.toList).flatten).length = q * v.cells.size := by simp
        rw [this, hl2]; exact h0
      rw [List.length_eq_zero_iff.1 this, h0]; simp
    simp only [execOp, Instr.buildSlice, Sem.run_bind, run_underlying hu, Result.andThen_ok, size_of_szT hs, Sem.run_ite, if_neg hc, if_pos h0, Sem.run_pure]
    rw [e1, hrow, h8]
    simp [newRow]
  · have hrow : ((Array.range (q * s)).map fun i => v.cells[i % v.cells.size]!) = ((List.replicate q v.cells.toList).flatten).toArray := by
      have := range_cells v.cells.toList q
      rw [hl'] at this
      simpa using this
    simp only [execOp, Instr.buildSlice, Sem.run_bind, run_underlying hu, Result.andThen_ok, size_of_szT hs, Sem.run_ite, if_neg hc, if_neg h0, h4, Sem.run_pure]
    rw [e1, hrow, h8]
    simp [newRow]
theorem new_mks {e s bytes : Nat} {z : List S} {ti : TypeInfo} (hu : P.underlying t = some (.slice e)) (hz : zeroL P e = some z) (hs : szT P e = some s) (hl : z.length = s) (hi : P.info? e = some ti) (hb : ti.bytes ≤ 1000000) (hr : r_mks (dstP n d) e z (trA n x) (trA n y) ih endK env h nx dd = .C e' env' h' nx1 dd') : NewR P n env h nx env' h' ⟨d, .makeSlice t x y, ty, pos, af, g⟩ := by
  obtain ⟨i1, a, h1, h2⟩ := onI_ok hr (fun n => by simp)
  obtain ⟨i2, b, h3, h4⟩ := onI_ok h2 (fun n => by simp)
  obtain ⟨l, rfl, h5⟩ := onN_ok h4 (fun n => by simp)
  obtain ⟨c, rfl, h6⟩ := onN_ok h5 (fun n => by simp)
  obtain ⟨h7, h8⟩ := cond_ok h6 (fun n => by simp)
  obtain ⟨nx', h9, h10⟩ := newK_ok h8 (fun n => by simp)
  injection h10 with a1 a2 a3 a4 a5; subst a2 a3
  refine ⟨_, _, rfl, rfl, fun σ f hE => ?_⟩
  rw [Bool.and_eq_true] at h7
  have g1 := Nat.le_of_ble_eq_true h7.1
  have g2 := Nat.le_of_ble_eq_true h7.2
  have hx := okV_i (hE x (by simp [Op.operands]) _ h1)
  have hy := okV_i (hE y (by simp [Op.operands]) _ h3)
  obtain ⟨v, h11, h12⟩ := zeroL_ok (σ := σ) hz
  have hl' : v.cells.size = s := by have := h11.length; simp at this; omega
  refine ⟨_, 0, fun b => .slice (some ⟨b, 0, none⟩) l c, .cells (q := e) (rep_ok h11 c), fun b => ⟨b, 0, Sg.ext_same _ _, rfl⟩, fun w => ?_⟩
  have hti : (typeInfo e).run P w = .ok ti w := by simp [typeInfo, hi]
  have w1 : IntKind.i64.wrap (l : Int) = l := wrap_i64 (by omega)
  have w2 : IntKind.i64.wrap (c : Int) = c := wrap_i64 (by omega)
  have hbc : (ti.bytes : Int) * (c : Int) ≤ 2 ^ 48 := by
    have : ti.bytes * c ≤ 1000000 * 1000000 := Nat.mul_le_mul hb g2
    have h2 : ((ti.bytes * c : Nat) : Int) ≤ ((1000000 * 1000000 : Nat) : Int) := by exact_mod_cast this
    rw [Int.natCast_mul] at h2
    omega
  have hrow : c * s ≠ 0 → ((Array.range (c * s)).map fun i => v.cells[i % v.cells.size]!) = ((List.replicate c v.cells.toList).flatten).toArray := fun h0 => by
    have := range_cells v.cells.toList c
    simp only [Array.length_toList, Array.toArray_toList] at this
    rw [hl'] at this ⊢
    exact this
  have ha : ∀ (q : IntKind) (k : Int) (w : World), (asInt (.int q k)).run P w = .ok k w := fun q k w => by simp [asInt, asIntOf, Sem.run_bind]
  have h1' : ¬ ((l : Int) < 0) := by omega
  have h2' : ¬ ((l : Int) > (c : Int)) := by omega
  have h3' : (decide ((c : Int) < 0) || decide ((ti.bytes : Int) * (c : Int) > 2 ^ 48)) = false := by simp; omega
  simp only [execOp, hx, hy, Instr.makeSlice, Sem.run_bind, run_underlying hu, Result.andThen_ok, ha, Sem.run_pure, hti, w1, w2]
  simp only [h3', Bool.false_eq_true, false_or, h1', h2', if_false, Sem.run_ite, or_self, decide_false, Bool.or_self, Bool.or_false]
  by_cases h0 : c * s = 0
  · have hl0 : ((List.replicate c v.cells.toList).flatten) = [] := by
      apply List.length_eq_zero_iff.1
      have : ((List.replicate c v.cells.toList).flatten).length = c * v.cells.size := by simp
      rw [this, hl']; exact h0
    rw [hl0]
    simp only [Int.toNat_natCast, run_askRoom, size_of_szT hs, Sem.run_bind, Result.andThen_ok, h0, if_true, Sem.run_pure, newRow, run_newObj, World.alloc_eq]
    rw [show (Array.map (fun (x : Nat) => (#[] : Array Value)[x % (#[] : Array Value).size]!) (Array.range 0)) = #[] by simp]
  · simp only [Int.toNat_natCast, run_askRoom, size_of_szT hs, Sem.run_bind, Result.andThen_ok, if_neg h0, h12, Sem.run_pure, Sem.run_ite, hrow h0, newRow, run_newObj, World.alloc_eq]
theorem failedC {m : Nat} {p : Prop} {k : Kt} (hr : (failed m).run ih k env h nx dd = .C e' env' h' nx1 dd') : p := failed_ok hr (fun n => by simp)
/-- An operation that makes a block. -/
theorem newOp {q : Bool} {op : Op} (hn : isNew op = true) (hr : (trOp P n q (dstP n d) op).run ih endK env h nx dd = .C e' env' h' nx1 dd') : NewR P n env h nx env' h' ⟨d, op, ty, pos, af, g⟩ := by
  cases op with
  | alloc t =>
    simp only [trOp] at hr
    split at hr
    · rename_i z hz; exact new_new (ih := ih) hz hr
    · exact failedC hr
  | box t x => exact new_box (ih := ih) hr
  | buildSlice t k' ps =>
    simp only [trOp] at hr
    split at hr
    · rename_i e hu
      split at hr
      · rename_i s z hs hz
        obtain ⟨h1, h2⟩ := condF_ok hr (fun n => by simp)
        rw [Bool.and_eq_true] at h1
        exact new_bsl (ih := ih) hu hz hs (Nat.eq_of_beq_eq_true h1.2) (Nat.le_of_ble_eq_true h1.1) h2
      · exact failedC hr
    · exact failedC hr
  | makeSlice t x y =>
    simp only [trOp] at hr
    split at hr
    · rename_i e hu
      split at hr
      · rename_i s z hs hz
        obtain ⟨h1, h2⟩ := condF_ok hr (fun n => by simp)
        rw [Bool.and_eq_true] at h1
        obtain ⟨ti, hi, hb⟩ := info_of h1.2
        exact new_mks (ih := ih) (bytes := 0) hu hz hs (Nat.eq_of_beq_eq_true h1.1) hi hb h2
      · exact failedC hr
    · exact failedC hr
  | makeMap t rr =>
    cases rr with
    | none => exact new_mkm (ih := ih) hr
    | some x => exact failedC hr
  | _ => cases hn
end
/-! ### The states that a region goes through, in the order of its text -/
abbrev ZT := Kd × Option K4 × Rn
section
variable {ih : Ih} {dd : List D}
theorem foldD_cons (o : ZT) (l : List ZT) (s : DS) : foldD ih dd (o :: l) s = (match stepD ih dd o s with | some s => foldD ih dd l s | none => none) := by
  show Option.rec (motive := fun _ => Option DS) none (foldD ih dd l) (stepD ih dd o s) = _
  cases stepD ih dd o s <;> rfl
theorem trace : ∀ (l : List ZT) (s0 s : DS), foldD ih dd l s0 = some s → ∃ S : Nat → DS, S 0 = s0 ∧ S l.length = s ∧ ∀ i o, l[i]? = some o → stepD ih dd o (S i) = some (S (i + 1))
  | [], s0, s, h => ⟨fun _ => s0, rfl, by injection h, by simp⟩
  | o :: l, s0, s, h => by
    rw [foldD_cons] at h
    split at h
    · rename_i s1 h1
      obtain ⟨S, h2, h3, h4⟩ := trace l s1 s h
      refine ⟨fun i => match i with | 0 => s0 | i + 1 => S i, rfl, h3, fun i o' hi => ?_⟩
      cases i with
      | zero => simp at hi; subst hi; show stepD ih dd o s0 = some (S 0); rw [h2]; exact h1
      | succ i => exact h4 i o' (by simpa using hi)
    · cases h
theorem onC5_ok {r : Rs} {f : En → Hp → Nm → Option DS} {s : DS} (h : onC5 r f = some s) : ∃ env hh nx ds, r = .C .n env hh nx ds ∧ f env hh nx = some s := by
  unfold onC5 at h
  split at h
  · exact ⟨_, _, _, _, rfl, h⟩
  · cases h
/-- One step, kind by kind. -/
theorem step_p {d : Option K4} {r : Rn} {s t : DS} (h : stepD ih dd (.p, d, r) s = some t) : ∃ env' hh nx ds, r ih endK s.env noHp topN dd = .C .n env' hh nx ds ∧ t = { s with env := mrg d env' s.env } := by
  obtain ⟨env, hh, nx, ds, h1, h2⟩ := onC5_ok (show onC5 _ _ = _ from h)
  injection h2 with h2; subst h2
  exact ⟨env, hh, nx, ds, h1, rfl⟩
theorem step_n {d : Option K4} {r : Rn} {s t : DS} (h : stepD ih dd (.n, d, r) s = some t) : get8 s.res s.h = none ∧ ∃ env' h' nx ds res', r ih endK s.env s.h s.res dd = .C .n env' h' nx ds ∧ res'.val = s.res.val + 1 ∧ t = { s with env := mrg d env' s.env, h := h', res := res' } := by
  have h' : (match get8 s.res s.h with | none => onC5 (r ih endK s.env s.h s.res dd) fun env h _ => suc8 s.res (fun res => some { s with env := mrg d env s.env, h := h, res := res }) none | some _ => none) = some t := h
  split at h'
  · rename_i h0
    obtain ⟨env, hh, nx, ds, h1, h2⟩ := onC5_ok h'
    rcases suc8_eq s.res (fun res => some ({ s with env := mrg d env s.env, h := hh, res := res } : DS)) none with ⟨n', g1, g2⟩ | g2
    · rw [g2] at h2; injection h2 with h2; subst h2
      exact ⟨h0, env, hh, nx, ds, n', h1, g1, rfl⟩
    · rw [g2] at h2; cases h2
  · cases h'
theorem step_e {d : Option K4} {r : Rn} {s t : DS} (h : stepD ih dd (.e, d, r) s = some t) : ∃ hp nx pt env' h' nx' ds, s.past = (hp, nx) :: pt ∧ r ih endK s.env s.h nx dd = .C .n env' h' nx' ds ∧ t = { s with env := mrg d env' s.env, h := h', past := (h', nx') :: s.past, ec := s.ec + 1 } := by
  unfold stepD at h
  cases hp : s.past with
  | nil => simp only [hp] at h; cases h
  | cons a pt =>
    obtain ⟨hh, nx⟩ := a
    simp only [hp] at h
    obtain ⟨env, h', nx', ds, h1, h2⟩ := onC5_ok h
    injection h2 with h2; subst h2
    exact ⟨hh, nx, pt, env, h', nx', ds, rfl, h1, by simp⟩
theorem step_r {back fwd : Nat} {d : Option K4} {r : Rn} {s t : DS} (h : stepD ih dd (.r back fwd, d, r) s = some t) : ∃ hp nx pt env' hh nx' ds, s.past = (hp, nx) :: pt ∧ r ih endK s.env hp nx dd = .C .n env' hh nx' ds ∧
    t = { s with env := mrg d env' s.env, recs := cond (Nat.beq (Nat.add back fwd) 0) s.recs (⟨r, s.env, getD d env', d, s.ec, back, fwd⟩ :: s.recs) } := by
  unfold stepD at h
  cases hp : s.past with
  | nil => simp only [hp] at h; cases h
  | cons a pt =>
    obtain ⟨hh, nx⟩ := a
    simp only [hp] at h
    obtain ⟨env, h', nx', ds, h1, h2⟩ := onC5_ok h
    injection h2 with h2; subst h2
    exact ⟨hh, nx, pt, env, h', nx', ds, rfl, h1, by simp [hp]⟩
theorem step_past {o : ZT} {s t : DS} (h : stepD ih dd o s = some t) : (t.past = s.past ∧ t.ec = s.ec) ∨ ∃ a, t.past = a :: s.past ∧ t.ec = s.ec + 1 := by
  obtain ⟨kd, d, r⟩ := o
  cases kd with
  | p => obtain ⟨_, _, _, _, _, rfl⟩ := step_p h; exact .inl ⟨rfl, rfl⟩
  | n => obtain ⟨_, _, _, _, _, _, _, _, rfl⟩ := step_n h; exact .inl ⟨rfl, rfl⟩
  | e => obtain ⟨_, _, _, _, _, _, _, _, _, rfl⟩ := step_e h; exact .inr ⟨_, rfl, rfl⟩
  | r back fwd => obtain ⟨_, _, _, _, _, _, _, _, _, rfl⟩ := step_r h; exact .inl ⟨rfl, rfl⟩
theorem past_len {l : List ZT} {S : Nat → DS} (hS : ∀ i o, l[i]? = some o → stepD ih dd o (S i) = some (S (i + 1))) (h0 : (S 0).past.length = (S 0).ec + 1) : ∀ i, i ≤ l.length → (S i).past.length = (S i).ec + 1
  | 0, _ => h0
  | i + 1, hi => by
    have ih1 := past_len hS h0 i (by omega)
    rcases step_past (hS i _ (List.getElem?_eq_getElem (by omega))) with ⟨h1, h2⟩ | ⟨a, h1, h2⟩
    · rw [h1, h2]; exact ih1
    · rw [h1, h2]; simp; exact ih1
theorem past_pre {l : List ZT} {S : Nat → DS} (hS : ∀ i o, l[i]? = some o → stepD ih dd o (S i) = some (S (i + 1))) (i : Nat) : ∀ k, i + k ≤ l.length → ∃ pre, (S (i + k)).past = pre ++ (S i).past
  | 0, _ => ⟨[], rfl⟩
  | k + 1, hk => by
    obtain ⟨pre, h⟩ := past_pre hS i k (by omega)
    rcases step_past (hS (i + k) _ (List.getElem?_eq_getElem (by omega))) with ⟨h1, _⟩ | ⟨a, h1, _⟩
    · exact ⟨pre, by rw [← h, ← h1]; rfl⟩
    · exact ⟨a :: pre, by rw [List.cons_append, ← h, ← h1]; rfl⟩
theorem past_at {l : List ZT} {S : Nat → DS} (hS : ∀ i o, l[i]? = some o → stepD ih dd o (S i) = some (S (i + 1))) (h0 : (S 0).past.length = (S 0).ec + 1) {i : Nat} (hi : i ≤ l.length) {a : Hp × Nm} {pt : List (Hp × Nm)} (hp : (S i).past = a :: pt) : (S l.length).past.reverse[(S i).ec]? = some a := by
  obtain ⟨pre, h⟩ := past_pre hS i (l.length - i) (by omega)
  rw [show i + (l.length - i) = l.length by omega] at h
  have hl := past_len hS h0 i hi
  rw [hp] at hl
  simp only [List.length_cons, Nat.add_right_cancel_iff] at hl
  rw [h, hp, List.reverse_append, List.reverse_cons, ← hl]
  rw [List.getElem?_append_left (by simp)]
  rw [List.getElem?_append_right (by simp)]
  simp
theorem agains_ok {p : Rec} : ∀ {k : Nat} {l : List (Hp × Nm)}, agains ih dd p k l = true → ∀ j, j < k → ∃ a, l[j]? = some a ∧ again ih dd p a.1 a.2 = true
  | 0, _, _, j, hj => by omega
  | k + 1, [], h, _, _ => by cases h
  | k + 1, (hh, nx) :: l, h, j, hj => by
    have h' : cond (again ih dd p hh nx) (agains ih dd p k l) false = true := h
    cases ha : again ih dd p hh nx with
    | false => rw [ha] at h'; cases h'
    | true =>
      rw [ha] at h'
      cases j with
      | zero => exact ⟨(hh, nx), rfl, ha⟩
      | succ j => exact agains_ok (l := l) h' j (by omega)
theorem drpH_get : ∀ (k : Nat) (l : List (Hp × Nm)) (j : Nat), (drpH k l)[j]? = l[k + j]?
  | 0, l, j => by rw [Nat.zero_add]; rfl
  | k + 1, [], j => by simp [drpH]
  | k + 1, _ :: l, j => by
    show (drpH k l)[j]? = _
    rw [drpH_get k l j, show k + 1 + j = (k + j) + 1 by omega]; rfl
theorem recsB_ok {X : List (Hp × Nm)} : ∀ {l : List Rec}, recsB ih dd X l = true → ∀ p ∈ l, p.back ≤ p.ec ∧ ∀ k, p.ec - p.back ≤ k → k ≤ p.ec + p.fwd → ∃ a, X[k]? = some a ∧ again ih dd p a.1 a.2 = true
  | [], _, p, hp => by cases hp
  | q :: l, h, p, hp => by
    have h' : cond (Nat.ble q.back q.ec && agains ih dd q (Nat.add (Nat.add q.back q.fwd) 1) (drpH (Nat.sub q.ec q.back) X)) (recsB ih dd X l) false = true := h
    cases hc : (Nat.ble q.back q.ec && agains ih dd q (Nat.add (Nat.add q.back q.fwd) 1) (drpH (Nat.sub q.ec q.back) X)) with
    | false => rw [hc] at h'; cases h'
    | true =>
      rw [hc] at h'
      rcases List.mem_cons.1 hp with rfl | hp
      · rw [Bool.and_eq_true] at hc
        have h1 := Nat.le_of_ble_eq_true hc.1
        refine ⟨h1, fun k hk1 hk2 => ?_⟩
        obtain ⟨a, h2, h3⟩ := agains_ok hc.2 (k - (p.ec - p.back)) (by show _ < p.back + p.fwd + 1; omega)
        rw [drpH_get] at h2
        refine ⟨a, ?_, h3⟩
        rw [← h2]; congr 1
        show k = p.ec - p.back + (k - (p.ec - p.back)); omega
      · exact recsB_ok h' p hp
end
/-! equality of the evaluator's values -/
theorem beqPs_eq : ∀ {l m : List (Nm × Nat)}, beqPs l m = true → l = m
  | [], [], _ => rfl
  | (p, a) :: l, (q, b) :: m, h => by
    have h' : (nmEq p q && Nat.beq a b && beqPs l m) = true := h
    rw [Bool.and_eq_true, Bool.and_eq_true] at h'
    rw [nmEq_t h'.1.1, Nat.eq_of_beq_eq_true h'.1.2, beqPs_eq h'.2]
  | [], _ :: _, h => by cases h
  | _ :: _, [], h => by cases h
theorem bytes_same {s t : ByteArray} (h : (s.data.toList == t.data.toList) = true) : s = t := by
  obtain ⟨s⟩ := s
  obtain ⟨t⟩ := t
  have e : s.toList = t.toList := by simpa using h
  rw [Array.ext' e]
theorem beq0_eq {a b : S0} (h : beq0 a b = true) : a = b := by
  cases a <;> cases b <;> first | rfl | (cases h; done) | skip
  · rename_i g l g' l'
    have h' : (Nat.beq g g' && beqPs l l') = true := h
    rw [Bool.and_eq_true] at h'
    rw [Nat.eq_of_beq_eq_true h'.1, beqPs_eq h'.2]
  · rename_i n m; rw [nmEq_t (show nmEq n m = true from h)]
  · rename_i n m; rw [nmEq_t (show nmEq n m = true from h)]
  · rename_i t n t' m
    have h' : (Nat.beq t t' && nmEq n m) = true := h
    rw [Bool.and_eq_true] at h'
    rw [Nat.eq_of_beq_eq_true h'.1, nmEq_t h'.2]
  · rename_i s t; rw [bytes_same h]
theorem beqS_eq {a b : S} (h : beqS a b = true) : a = b := by
  unfold beqS at h
  split at h
  · rfl
  · rfl
  · rw [Bool.and_eq_true] at h
    have := kcode_inj h.1; subst this
    rw [eqI_eq] at h
    have e := h.2
    simp only [beq_iff_eq] at e
    subst e; rfl
  · rw [Bool.and_eq_true] at h
    rw [nmEq_t h.1, Nat.eq_of_beq_eq_true h.2]
  · simp only [Bool.and_eq_true] at h
    rw [nmEq_t h.1.1.1, Nat.eq_of_beq_eq_true h.1.1.2, Nat.eq_of_beq_eq_true h.1.2, Nat.eq_of_beq_eq_true h.2]
  · simp only [Bool.and_eq_true] at h
    rw [nmEq_t h.1.1.1, Nat.eq_of_beq_eq_true h.1.1.2, Nat.eq_of_beq_eq_true h.1.2, Nat.eq_of_beq_eq_true h.2]
  · rw [beq0_eq h]
  · cases h
theorem beqL_eq : ∀ {l m : List S}, beqL l m = true → l = m
  | [], [], _ => rfl
  | a :: l, b :: m, h => by
    have h' : (beqS a b && beqL l m) = true := h
    rw [Bool.and_eq_true] at h'
    rw [beqS_eq h'.1, beqL_eq h'.2]
  | [], _ :: _, h => by cases h
  | _ :: _, [], h => by cases h
theorem beqA_eq {a b : A1} (h : beqA a b = true) : a = b := by
  cases a <;> cases b <;> first | (cases h; done) | rw [beqS_eq h] | rw [beqL_eq h]
theorem beqT_eq : ∀ {l m : List A1}, beqT l m = true → l = m
  | [], [], _ => rfl
  | a :: l, b :: m, h => by
    have h' : (beqA a b && beqT l m) = true := h
    rw [Bool.and_eq_true] at h'
    rw [beqA_eq h'.1, beqT_eq h'.2]
  | [], _ :: _, h => by cases h
  | _ :: _, [], h => by cases h
theorem beqV_eq {a b : V} (h : beqV a b = true) : a = b := by
  cases a <;> cases b <;> first | (cases h; done) | rw [beqS_eq h] | rw [beqL_eq h] | rw [beqT_eq h]
theorem beqO_eq {a b : Option V} (h : beqO a b = true) : a = b ∧ a ≠ none := by
  cases a <;> cases b <;> first | (cases h; done) | (rw [beqV_eq h]; simp)
end Go.Proofs.YtgmlbaffghogaaaGreatDoor
/-! EV, proved right, part 20: heaps given by what is known of each name. -/
set_option linter.unusedVariables false
set_option linter.unusedSimpArgs false
namespace Go.Proofs.YtgmlbaffghogaaaGreatDoor
open Go.RowKit
/-- As HR, of any knowledge of names; names may come in any order. -/
structure HRc (σ : Sg) (H : Nm → Option O) (L : List Ent) : Prop where
  inj : ∀ n m x y b c d, H n = some x → H m = some y → σ n = some (b, c) → σ m = some (b, d) → n = m
  own : ∀ n o, H n = some o → ∃ b c ob, σ n = some (b, c) ∧ (b, ob) ∈ L ∧ OR σ c o ob
section
variable {σ σ' : Sg} {nx : Nm} {h : Hp} {H H' : Nm → Option O} {L L' : List Ent}
theorem HRc.hr (hc : HRc σ (fun n => get8 n h) L) (hf : ∀ m : Nm, nx.val ≤ m.val → σ m = none) : HR σ nx h L := ⟨hf, hc.inj, hc.own⟩
theorem HR.c (hH : HR σ nx h L) : HRc σ (fun n => get8 n h) L := ⟨hH.inj, hH.own⟩
theorem HRc.sub (hc : HRc σ H L) (hs : ∀ n o, H' n = some o → H n = some o) : HRc σ H' L :=
  ⟨fun n m x y b c d hn hm => hc.inj n m x y b c d (hs _ _ hn) (hs _ _ hm), fun n o hn => hc.own n o (hs _ _ hn)⟩
theorem HRc.mem (hc : HRc σ H L) (hs : ∀ p ∈ L, p ∈ L') : HRc σ H L' :=
  ⟨hc.inj, fun n o hn => let ⟨b, c, ob, h1, h2, h3⟩ := hc.own n o hn; ⟨b, c, ob, h1, hs _ h2, h3⟩⟩
theorem ext_raw {nm : Nm} (hn : σ nm = none) (x : Nat × Nat) : ∀ n y, σ n = some y → σ.ext nm x n = some y := fun m y hy => by
  by_cases e : m = nm
  · subst e; rw [hn] at hy; cases hy
  · rw [Sg.ext_ne e]; exact hy
/-- A block more, under a name that stands for none so far. -/
theorem HRc.new {nm : Nm} {b cap : Nat} {o : O} {ob : Obj} (hc : HRc σ H L) (hn : σ nm = none) (hb : ∀ p ∈ L, p.1 ≠ b) (ho : OR σ cap o ob) : HRc (σ.ext nm (b, cap)) (fun n => cond (nmEq n nm) (some o) (H n)) ((b, ob) :: L) := by
  have hraw := ext_raw (σ := σ) hn (b, cap)
  have key : ∀ n y, (cond (nmEq n nm) (some o) (H n)) = some y → (n = nm ∧ y = o) ∨ (n ≠ nm ∧ H n = some y) := fun n y hy => by
    cases e : nmEq n nm with
    | true => rw [e] at hy; injection hy with hy; exact .inl ⟨nmEq_t e, hy.symm⟩
    | false => rw [e] at hy; exact .inr ⟨nmEq_f e, hy⟩
  refine ⟨fun n m x y b' c d hn' hm' hsn hsm => ?_, fun n y hy => ?_⟩
  · rcases key n x hn' with ⟨rfl, _⟩ | ⟨e1, hn1⟩
    · rcases key m y hm' with ⟨rfl, _⟩ | ⟨e2, hm1⟩
      · rfl
      · obtain ⟨b1, c1, ob1, h1, h2, _⟩ := hc.own m y hm1
        rw [Sg.ext_same] at hsn; rw [Sg.ext_ne e2, h1] at hsm
        injection hsn with hsn; injection hsn with a1 a2; injection hsm with hsm; injection hsm with a3 a4
        exact absurd (by rw [a3, ← a1]) (hb _ h2)
    · rcases key m y hm' with ⟨rfl, _⟩ | ⟨e2, hm1⟩
      · obtain ⟨b1, c1, ob1, h1, h2, _⟩ := hc.own n x hn1
        rw [Sg.ext_same] at hsm; rw [Sg.ext_ne e1, h1] at hsn
        injection hsn with hsn; injection hsn with a1 a2; injection hsm with hsm; injection hsm with a3 a4
        exact absurd (by rw [a1, ← a3]) (hb _ h2)
      · rw [Sg.ext_ne e1] at hsn; rw [Sg.ext_ne e2] at hsm
        exact hc.inj n m x y b' c d hn1 hm1 hsn hsm
  · rcases key n y hy with ⟨rfl, rfl⟩ | ⟨e1, hn1⟩
    · exact ⟨b, cap, ob, Sg.ext_same _ _, List.mem_cons_self, ho.raw hraw⟩
    · obtain ⟨b1, c1, ob1, h1, h2, h3⟩ := hc.own n y hn1
      exact ⟨b1, c1, ob1, hraw _ _ h1, List.mem_cons_of_mem _ h2, h3.raw hraw⟩
end
end Go.Proofs.YtgmlbaffghogaaaGreatDoor
/-! EV, proved right, part 21: the rows of a region that draws its order. -/
set_option linter.unusedVariables false
set_option linter.unusedSimpArgs false
namespace Go.Proofs.YtgmlbaffghogaaaGreatDoor
open Go.RowKit
theorem zip3_get {n : Nat} : ∀ {ks : List Kd} {os : List Oper} {rs : List Rn} {i : Nat} {k : Kd} {o : Oper} {r : Rn}, ks[i]? = some k → os[i]? = some o → rs[i]? = some r → (zip3 ks os rs n)[i]? = some (k, dstP n o.dst, r)
  | k' :: ks, o' :: os, r' :: rs, 0, k, o, r, h1, h2, h3 => by
    simp at h1 h2 h3; subst h1 h2 h3; rfl
  | k' :: ks, o' :: os, r' :: rs, i + 1, k, o, r, h1, h2, h3 => zip3_get (i := i) (by simpa using h1) (by simpa using h2) (by simpa using h3)
  | [], _, _, i, _, _, _, h, _, _ => by simp at h
  | _ :: _, [], _, i, _, _, _, _, h, _ => by simp at h
  | _ :: _, _ :: _, [], i, _, _, _, _, _, h => by simp at h
theorem zip3_len {n : Nat} : ∀ {ks : List Kd} {os : List Oper} {rs : List Rn}, ks.length = os.length → rs.length = os.length → (zip3 ks os rs n).length = os.length
  | [], [], [], _, _ => rfl
  | k :: ks, o :: os, r :: rs, h1, h2 => by
    show (zip3 ks os rs n).length + 1 = os.length + 1
    rw [zip3_len (by simpa using h1) (by simpa using h2)]
  | [], _ :: _, _, h, _ => by simp at h
  | _ :: _, [], _, h, _ => by simp at h
  | [], [], _ :: _, _, h => by simp at h
  | _ :: _, _ :: _, [], _, h => by simp at h
theorem trOps_len {P : Program} {n : Nat} {q : Bool} {ol : List Oper} : ∀ l : List Oper, (trOps P n q ol l).length = l.length
  | [] => rfl
  | o :: l => by show (trOps P n q ol l).length + 1 = _; rw [trOps_len l]; rfl
theorem trOps_get {P : Program} {n : Nat} {q : Bool} {ol : List Oper} : ∀ {l : List Oper} {i : Nat} {o : Oper}, l[i]? = some o → (trOps P n q ol l)[i]? = some (guarded (trG n ol o.guard) (dstP n o.dst) (trOp P n q (dstP n o.dst) o.op))
  | [], i, o, h => by simp at h
  | a :: l, 0, o, h => by simp at h; subst h; rfl
  | a :: l, i + 1, o, h => trOps_get (l := l) (i := i) (by simpa using h)
theorem kinds_len (l : List Oper) (cl : List (List Nat)) : (kinds l cl).length = l.length := by simp [kinds]
theorem kinds_get {l : List Oper} {cl : List (List Nat)} {i : Nat} {o : Oper} (h : l[i]? = some o) : (kinds l cl)[i]? = some (match kind0 o.op with
  | 0 => .p
  | 1 => .r (((effs l).filter fun e => Nat.blt e i && !((cl.getD i []).contains e)).length) (((effs l).filter fun e => Nat.blt i e && !((cl.getD e []).contains i)).length)
  | 2 => .e
  | _ => .n) := by
  simp only [kinds, List.getElem?_map, List.getElem?_zipIdx, h, Option.map_some, Nat.zero_add]
  rfl
end Go.Proofs.YtgmlbaffghogaaaGreatDoor
/-! EV, proved right, part 22: what is known along a region that draws its order. -/
set_option linter.unusedVariables false
set_option linter.unusedSimpArgs false
namespace Go.Proofs.YtgmlbaffghogaaaGreatDoor
open Go.RowKit
/-! ### Operations by their kind -/
def selI (κ : Nat) (l : List Oper) (k : Nat) : List Nat := (l.zipIdx k).filterMap fun p => cond (Nat.beq (kind0 p.1.op) κ) (some p.2) none
theorem selI_cons (κ : Nat) (o : Oper) (l : List Oper) (k : Nat) : selI κ (o :: l) k = (match Nat.beq (kind0 o.op) κ with | true => k :: selI κ l (k + 1) | false => selI κ l (k + 1)) := by
  unfold selI
  rw [List.zipIdx_cons, List.filterMap_cons]
  cases h : Nat.beq (kind0 o.op) κ <;> simp [h]
theorem selI_ge {κ : Nat} : ∀ {l : List Oper} {k j : Nat}, j ∈ selI κ l k → k ≤ j
  | [], k, j, h => by simp [selI] at h
  | o :: l, k, j, h => by
    rw [selI_cons] at h
    split at h
    · rcases List.mem_cons.1 h with rfl | h
      · exact Nat.le_refl _
      · have := selI_ge h; omega
    · have := selI_ge h; omega
theorem selI_sorted {κ : Nat} : ∀ (l : List Oper) (k : Nat), (selI κ l k).Pairwise (· < ·)
  | [], k => by simp [selI]
  | o :: l, k => by
    rw [selI_cons]
    split
    · exact List.pairwise_cons.2 ⟨fun j hj => by have := selI_ge hj; omega, selI_sorted l (k + 1)⟩
    · exact selI_sorted l (k + 1)
theorem selI_mem {κ : Nat} : ∀ {l : List Oper} {k i : Nat}, k + i ∈ selI κ l k ↔ ∃ o, l[i]? = some o ∧ kind0 o.op = κ
  | [], k, i => by simp [selI]
  | o :: l, k, 0 => by
    rw [selI_cons]
    cases h : Nat.beq (kind0 o.op) κ with
    | true => simp [Nat.eq_of_beq_eq_true h]
    | false =>
      simp only [Nat.add_zero, List.getElem?_cons_zero, Option.some.injEq]
      refine ⟨fun hm => by have := selI_ge hm; omega, fun ⟨o', he, hk⟩ => ?_⟩
      subst he; rw [hk] at h; simp at h
  | o :: l, k, i + 1 => by
    have ih := selI_mem (κ := κ) (l := l) (k := k + 1) (i := i)
    rw [selI_cons, List.getElem?_cons_succ, ← ih, show k + (i + 1) = k + 1 + i by omega]
    cases h : Nat.beq (kind0 o.op) κ with
    | true => simp only [List.mem_cons]; exact ⟨fun hm => hm.resolve_left (by omega), .inr⟩
    | false => rfl
theorem countP_split {α : Type} {p q r : α → Bool} : ∀ {l : List α}, (∀ x ∈ l, p x = true → q x = true ∨ r x = true) → l.countP p ≤ l.countP q + l.countP r
  | [], _ => by simp
  | x :: l, h => by
    have ih := countP_split (l := l) (fun y hy => h y (List.mem_cons_of_mem _ hy))
    have hx := h x List.mem_cons_self
    simp only [List.countP_cons]
    cases hp : p x with
    | false => simp; omega
    | true => rcases hx hp with hq | hr <;> simp [*] <;> omega
/-- So many of a kind ahead of a place. -/
def cntK (κ : Nat) (l : List Oper) (i : Nat) : Nat := (selI κ l 0).countP (fun e => Nat.blt e i)
theorem count_lt : ∀ {l : List Nat}, l.Pairwise (· < ·) → ∀ i, l.countP (fun e => Nat.blt e (i + 1)) = l.countP (fun e => Nat.blt e i) + (if i ∈ l then 1 else 0)
  | [], _, i => by simp
  | x :: l, h, i => by
    obtain ⟨h1, h2⟩ := List.pairwise_cons.1 h
    have ih := count_lt h2 i
    simp only [List.countP_cons, ih, List.mem_cons]
    by_cases e : i = x
    · subst e
      have : i ∉ l := fun hm => by have := h1 i hm; omega
      have e3 : (i = i ∨ i ∈ l) := .inl rfl
      rw [if_neg this, if_pos e3]
      have e1 : Nat.blt i (i + 1) = true := by rw [Nat.blt_eq]; omega
      have e2 : Nat.blt i i = false := blt_false (by omega)
      rw [if_pos e1, if_neg (by rw [e2]; simp)]
    · have e1 : Nat.blt x (i + 1) = Nat.blt x i := by
        by_cases h3 : x < i
        · rw [blt_true h3, blt_true (by omega)]
        · rw [blt_false h3, blt_false (by omega)]
      have e2 : (i = x ∨ i ∈ l) ↔ i ∈ l := ⟨fun hm => hm.resolve_left e, .inr⟩
      rw [e1]; simp only [e2]; omega
theorem cntK_succ (κ : Nat) {l : List Oper} {i : Nat} {o : Oper} (h : l[i]? = some o) : cntK κ l (i + 1) = cntK κ l i + (if kind0 o.op = κ then 1 else 0) := by
  unfold cntK
  rw [count_lt (selI_sorted l 0)]
  congr 1
  have := selI_mem (κ := κ) (l := l) (k := 0) (i := i)
  rw [Nat.zero_add] at this
  by_cases hk : kind0 o.op = κ
  · rw [if_pos hk, if_pos (this.2 ⟨o, h, hk⟩)]
  · rw [if_neg hk, if_neg (fun hm => by obtain ⟨o', h1, h2⟩ := this.1 hm; rw [h] at h1; injection h1 with h1; subst h1; exact hk h2)]
theorem cntK_zero (κ : Nat) (l : List Oper) : cntK κ l 0 = 0 := by
  unfold cntK
  rw [List.countP_eq_zero]
  intro e _; simp
theorem chain_prev {cl : List (List Nat)} : ∀ {es : List Nat}, es.Pairwise (· < ·) → chainB cl es = true → ∀ i ∈ es, ∀ j ∈ es, j < i → ∃ a ∈ es, j ≤ a ∧ a < i ∧ a ∈ cl.getD i []
  | [], _, _, i, hi, _, _, _ => by cases hi
  | [a], _, _, i, hi, j, hj, h => by simp at hi hj; omega
  | a :: b :: r, hp, hc, i, hi, j, hj, h => by
    obtain ⟨h1, h2⟩ := List.pairwise_cons.1 hp
    have hc' : ((cl.getD b []).contains a && chainB cl (b :: r)) = true := hc
    rw [Bool.and_eq_true] at hc'
    have hab := h1 b List.mem_cons_self
    rcases List.mem_cons.1 hi with rfl | hi2
    · rcases List.mem_cons.1 hj with rfl | hj
      · omega
      · have := h1 j hj; omega
    · clear hi
      by_cases eb : i = b
      · subst eb
        have hja : j = a := by
          rcases List.mem_cons.1 hj with rfl | hj
          · rfl
          · rcases List.mem_cons.1 hj with rfl | hj
            · omega
            · have := (List.pairwise_cons.1 h2).1 j hj; omega
        subst hja
        exact ⟨j, List.mem_cons_self, Nat.le_refl _, h, by simpa using hc'.1⟩
      · have hbi : b < i := by
          rcases List.mem_cons.1 hi2 with rfl | hi
          · exact absurd rfl eb
          · exact (List.pairwise_cons.1 h2).1 i hi
        rcases List.mem_cons.1 hj with rfl | hj
        · obtain ⟨a', g1, g2, g3, g4⟩ := chain_prev h2 hc'.2 i hi2 b List.mem_cons_self hbi
          exact ⟨a', List.mem_cons_of_mem _ g1, by omega, g3, g4⟩
        · obtain ⟨a', g1, g2, g3, g4⟩ := chain_prev h2 hc'.2 i hi2 j hj h
          exact ⟨a', List.mem_cons_of_mem _ g1, g2, g3, g4⟩
theorem cl_lt {l : List Oper} {cl : List (List Nat)} (hc : clB l cl 0 l = true) (hb : backC l 0 = true) : ∀ i, i < l.length → ∀ q ∈ cl.getD i [], q < i := by
  intro i
  induction i using Nat.strongRecOn with
  | _ i ih =>
    intro hi q hq
    have ho := List.getElem?_eq_getElem hi
    obtain ⟨e, he, hbd, h⟩ := clB_get hc i _ ho q (by simpa using hq)
    have hlt := backC_get hb i _ ho e he hbd
    rw [Nat.zero_add] at hlt
    rcases h with rfl | h
    · exact hlt
    · have := ih e.on hlt (by omega) q h; omega
theorem bindsOn_mem {o : Oper} {j : Nat} (h : j ∈ bindsOn o) : ∃ e ∈ o.after, Region.binds .any e = true ∧ e.on = j := by
  unfold bindsOn at h
  obtain ⟨e, he, h2⟩ := List.mem_filterMap.1 h
  cases hb : Region.binds .any e with
  | false => rw [hb] at h2; cases h2
  | true => rw [hb] at h2; injection h2 with h2; exact ⟨e, by simpa using he, hb, h2⟩
theorem allAt_of {p : Nat → Oper → Prop} : ∀ {l : List Oper} {k : Nat}, (∀ i o, l[i]? = some o → p (k + i) o) → AllAt p k l
  | [], _, _ => trivial
  | o :: l, k, h => ⟨h 0 o rfl, allAt_of (fun i o' hi => by have := h (i + 1) o' (by simpa using hi); rwa [show k + (i + 1) = k + 1 + i by omega] at this)⟩
theorem addN_ok {f : Nm → Rs} {r : Rs} : ∀ {k : Nat} {p : Nm}, addN k p f = r → good r → ∃ p' : Nm, p'.val = p.val + k ∧ f p' = r ∧ ∀ j, j ≤ k → ∃ q : Nm, q.val = p.val + j
  | 0, p, h, _ => ⟨p, rfl, h, fun j hj => ⟨p, by omega⟩⟩
  | k + 1, p, h, hg => by
    obtain ⟨p1, h1, h2⟩ := newK_ok (show newK p (fun p => addN k p f) = r from h) hg
    obtain ⟨p', h3, h4, h5⟩ := addN_ok h2 hg
    refine ⟨p', by omega, h4, fun j hj => ?_⟩
    cases j with
    | zero => exact ⟨p, by omega⟩
    | succ j => obtain ⟨q, hq⟩ := h5 j (by omega); exact ⟨q, by omega⟩
/-! ### One slot a step -/
theorem mrg_ne {n : Nat} {d : Option Nat} {t : Nat} {env' env : En} (h : d ≠ some t) (ht : t < 256) : get4 (slotK t) (mrg (dstP n d) env' env) = get4 (slotK t) env := by
  cases d with
  | none => rfl
  | some d =>
    show get4 (slotK t) (mrg (cond (slotB d n) (some (slotK d)) none) env' env) = _
    cases hb : slotB d n with
    | false => rfl
    | true =>
      have hd := slotB_ok hb
      exact get4_ne (fun e => h (by rw [slotK_inj ht hd.2 e])) _ _
theorem slotB_of {t n : Nat} (h1 : t < n) (h2 : t < 256) : slotB t n = true := by unfold slotB; rw [blt_true h1, blt_true h2]; rfl
theorem dstP_some {n t : Nat} (h1 : t < n) (h2 : t < 256) : dstP n (some t) = some (slotK t) := by
  show cond (slotB t n) (some (slotK t)) none = _
  rw [slotB_of h1 h2]; rfl
theorem mrg_same {n t : Nat} {env' env : En} (h1 : t < n) (h2 : t < 256) : get4 (slotK t) (mrg (dstP n (some t)) env' env) = get4 (slotK t) env' := by
  rw [dstP_some h1 h2]; exact get4_same _ _ _
theorem put_same {n t : Nat} {v : V} {env : En} (h1 : t < n) (h2 : t < 256) : get4 (slotK t) (put (dstP n (some t)) v env) = some v := by
  rw [dstP_some h1 h2]; exact get4_same _ _ _
/-- A guard is looked at first. -/
theorem guard_split {n : Nat} {ol : List Oper} {o : Oper} {F : Fx} {ih : Ih} {k : Kt} {env : En} {h : Hp} {nx : Nm} {dd : List D} {r : Rs} {σ : Sg} {ρ : Env} {d : Option K4} (hG : GdOk σ n env ρ ol o) (hr : guarded (trG n ol o.guard) d F ih k env h nx dd = r) (hg : good r) :
    (wantE n ol ρ o = true ∧ F.run ih k env h nx dd = r) ∨ (wantE n ol ρ o = false ∧ k (put d (.t []) env) h nx dd = r) := by
  cases hgd : o.guard with
  | none => rw [hgd] at hr; exact .inl ⟨by unfold wantE; rw [hgd], hr⟩
  | some p =>
    obtain ⟨j, w⟩ := p
    rw [hgd] at hr
    cases hj : (ol[j]?).bind (·.dst) with
    | none =>
      have e : trG n ol (some (j, w)) = .bad := by unfold trG; simp only [hj]
      rw [e] at hr; subst hr; exact good_bad hg
    | some t =>
      have e : trG n ol (some (j, w)) = cond (slotB t n) (.on (slotK t) w) .bad := by unfold trG; simp only [hj]
      rw [e] at hr
      cases hb : slotB t n with
      | false => rw [hb] at hr; subst hr; exact good_bad hg
      | true =>
        rw [hb] at hr
        obtain ⟨hd1, hd2⟩ := slotB_ok hb
        have hr' : guard1 d F (slotK t) w ih k env h nx dd = r := hr
        unfold guard1 at hr'
        have hy : ∀ v, ρ t = v → ylE n ol ρ j = (match v with | .bool b => some b | _ => none) := fun v hv => by
          unfold ylE; rw [hj]; simp only [blt_true hd1, cond_true, hv]
          cases v <;> rfl
        split at hr'
        · rename_i b hs
          have hv : ρ t = .bool b := hG j w t hgd hj hd1 hd2 _ hs
          cases hw : (cond w b (bnot b)) with
          | true =>
            rw [hw] at hr'
            refine .inl ⟨?_, hr'⟩
            unfold wantE; rw [hgd]; simp only [hy _ hv]
            cases w <;> cases b <;> first | rfl | (cases hw; done)
          | false =>
            rw [hw] at hr'
            refine .inr ⟨?_, hr'⟩
            unfold wantE; rw [hgd]; simp only [hy _ hv]
            cases w <;> cases b <;> first | rfl | (cases hw; done)
        · rename_i hs
          have hv : ρ t = undef := by
            obtain ⟨vs, h1, h2⟩ := hG j w t hgd hj hd1 hd2 _ hs
            cases vs with
            | nil => exact h2
            | cons => exact h1.elim
          refine .inr ⟨?_, hr'⟩
          unfold wantE; rw [hgd]; simp only [hy _ hv]
          rfl
        · subst hr'; exact good_bad hg
/-- An operation alone, with but a part of the blocks in its hands. -/
theorem RL.frame {c : Cx} {ol : List Oper} {o : Oper} {K : Ko} {Qp : Po} {ρ : Env} {ds : Ds} {Lh Ln : List Ent} (hq : c.q = false)
    (h : ∀ w, St c.w0 c.S w (Lh ++ Ln) → RL ⟨c.P, c.rd, c.n, w, keys Lh, c.q⟩ ol [o] (fun ρ ds L' => (keys (L' ++ Ln)).Nodup → K ρ ds (L' ++ Ln)) (fun _ _ _ _ => False) ρ ds Lh) : RL c ol [o] K Qp ρ ds (Lh ++ Ln) := by
  rw [RL_f hq]
  intro w hst
  have h1 := h w hst
  rw [RL_f (c := ⟨c.P, c.rd, c.n, w, keys Lh, c.q⟩) hq] at h1
  have hsub : (keys Lh).Nodup := by
    have := hst.nodup
    rw [List.map_append, List.nodup_append] at this
    exact this.1
  have h2 := h1 w (St.init (fun p hp => hst.own p (List.mem_append_left _ hp)) hsub)
  have tr : ∀ a w', lift ⟨c.P, c.rd, c.n, w, keys Lh, c.q⟩ (nrm (fun ρ ds L' => (keys (L' ++ Ln)).Nodup → K ρ ds (L' ++ Ln)) (fun _ _ _ _ => False)) .normal a w' → lift c (nrm K Qp) .normal a w' := by
    rintro a w' ⟨ρ', ds', L', rfl, h3, h4⟩
    have h5 := hst.comp h3
    exact ⟨ρ', ds', L' ++ Ln, rfl, h5, h4 h5.nodup⟩
  simp only [wpListIn] at h2 ⊢
  split
  · rename_i hw
    rw [if_pos hw] at h2
    refine wpIn_swapQ tr (fun ch a w' => ?_) ?_ h2
    · rintro ⟨ρ', ds', L', rfl, h3, h4⟩
      exact h4.elim
    · rintro ⟨a, w', ρ', ds', L', rfl, h3, h4⟩
      exact h4.elim
  · rename_i hw
    rw [if_neg hw] at h2
    exact ⟨h2.1, tr _ _ h2.2⟩
theorem rdOk_frame {c : Cx} {q : Bool} {w : World} {Lh Ln : List Ent} (h : RdOk c q) (hst : St c.w0 c.S w (Lh ++ Ln)) : RdOk ⟨c.P, c.rd, c.n, w, keys Lh, c.q⟩ q := by
  cases q with
  | false => exact h
  | true =>
    obtain ⟨b, r, h1, h2, h3⟩ := h
    have hlt := (Array.getElem?_eq_some_iff.1 h2).1
    refine ⟨b, r, h1, by rw [← h2]; exact hst.keep b hlt h3, fun hm => ?_⟩
    obtain ⟨p, hp, e⟩ := List.mem_map.1 hm
    rcases hst.free p (List.mem_append_left _ hp) with hf | hf
    · exact h3 (by rw [← e]; exact hf)
    · omega
end Go.Proofs.YtgmlbaffghogaaaGreatDoor
