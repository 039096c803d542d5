/- WholeFar: EvJ, EvDt. -/
import Derived.Test.YtpcdcemcjbeajaaGreatDoorWf08
section
set_option linter.unusedVariables false
set_option linter.unusedSimpArgs false
namespace Go.Proofs.YtpcdcemcjbeajaaGreatDoor
open Go.RowKit
structure IsNew (P : Program) (f : Operand → Value) (o : Oper) (σ : Sg) (nx : Nm) (v : V) (X : O) : Prop where
  ex : ∃ ob cap, ∃ val : Nat → Value, OR σ cap X ob ∧ (∀ b, okV (σ.ext nx (b, cap)) v (val b)) ∧ ∀ w, (execOp f o).run P w = .ok (.value (val w.heap.size)) (w.alloc ob)
def NewR (P : Program) (n : Nat) (env : En) (h : Hp) (nx : Nm) (env' : En) (h' : Hp) (o : Oper) : Prop :=
  ∃ v X, env' = put (dstP n o.dst) v env ∧ h' = set8 nx (some X) h ∧ ∀ σ f, OpsOk σ n env f o.op.operands → IsNew P f o σ nx v X
section
variable {P : Program} {nx : Nm} {h : Hp} {n : Nat} {env : En} {dd : List D}
variable {d : Option Nat} {ty : TypeId} {pos : String} {af : Array Edge} {g : Option (Nat × Bool)} {ih : Ih} {x y z : Operand} {t t' : TypeId}
variable {e' : Ex} {env' : En} {h' : Hp} {nx1 : Nm} {dd' : List D}
theorem new_new {z : List S} (hz : zeroL P t = some z) (hr : r_new (dstP n d) t z ih endK env h nx dd = .C e' env' h' nx1 dd') : NewR P n env h nx env' h' ⟨d, .alloc t, ty, pos, af, g⟩ := by
  obtain ⟨nx', h1, h2⟩ := newK_ok hr (fun n => by simp)
  injection h2 with a1 a2 a3 a4 a5; subst a2 a3
  refine ⟨_, _, rfl, rfl, fun σ f hE => ?_⟩
  obtain ⟨v, h3, h4⟩ := zeroL_ok (σ := σ) hz
  exact ⟨_, 0, _, .cells h3, fun b => okV_new b 0, fun w => by simp [execOp, Instr.alloc, Sem.run_bind, h4, newVar, newRow]⟩
theorem new_box (hr : r_box (dstP n d) t (trA n x) ih endK env h nx dd = .C e' env' h' nx1 dd') : NewR P n env h nx env' h' ⟨d, .box t x, ty, pos, af, g⟩ := by
  obtain ⟨v, h1, h2⟩ := onV_ok hr (fun n => by simp)
  obtain ⟨cs, h3, h4⟩ := onV_ok h2 (fun n => by simp)
  obtain ⟨nx', h5, h6⟩ := newK_ok h4 (fun n => by simp)
  injection h6 with a1 a2 a3 a4 a5; subst a2 a3
  refine ⟨_, _, rfl, rfl, fun σ f hE => ?_⟩
  obtain ⟨vs, h7, h8⟩ := vcells_ok h3 (hE x (by simp [Op.operands]) _ h1)
  exact ⟨_, 0, _, .cells h7, fun b => okV_new b 0, fun w => by simp [execOp, Instr.box, Sem.run_bind, newVar, newRow, h8]⟩
theorem new_mkm (hr : r_mkm (dstP n d) ih endK env h nx dd = .C e' env' h' nx1 dd') : NewR P n env h nx env' h' ⟨d, .makeMap t none, ty, pos, af, g⟩ := by
  obtain ⟨nx', h1, h2⟩ := newK_ok hr (fun n => by simp)
  injection h2 with a1 a2 a3 a4 a5; subst a2 a3
  exact ⟨_, _, rfl, rfl, fun σ f hE => ⟨.map #[] 0, 0, fun b => .map (some b), ⟨[], trivial, rfl⟩, fun b => ⟨b, 0, Sg.ext_same _ _, rfl⟩, fun w => by simp [execOp, Instr.makeMap, Sem.run_bind]⟩⟩
theorem new_bsl {e q s : Nat} {ps : Array (Nat × Operand)} {z : List S} (hu : P.underlying t = some (.slice e)) (hz : zeroL P e = some z) (hs : szT P e = some s) (hl : z.length = s) (hq : q * s ≤ 1000000) (hr : r_bsl (dstP n d) e q z (partsA n s ps.toList) ih endK env h nx dd = .C e' env' h' nx1 dd') : NewR P n env h nx env' h' ⟨d, .buildSlice t q ps, ty, pos, af, g⟩ := by
  obtain ⟨cs, h1, h2⟩ := onV_ok hr (fun n => by simp)
  obtain ⟨nx', h5, h6⟩ := newK_ok h2 (fun n => by simp)
  injection h6 with a1 a2 a3 a4 a5; subst a2 a3
  refine ⟨_, _, rfl, rfl, fun σ f hE => ?_⟩
  obtain ⟨v, h3, h4⟩ := zeroL_ok (σ := σ) hz
  obtain ⟨vc, h7, h8⟩ := fillA_ok (place := fun i => some (i * s, s)) (ps := ps.toList) (partsA_ok s ps.toList) (fun p hp' => hE p.2 (by simp [Op.operands]; exact ⟨p.1, by simpa using hp'⟩)) (rep_ok h3 q) h1
  have hl' : v.cells.toList.length = s := by rw [← h3.length]; exact hl
  refine ⟨_, 0, fun b => .slice (some ⟨b, 0, none⟩) q q, .cells (q := e) h7, fun b => ⟨b, 0, Sg.ext_same _ _, rfl⟩, fun w => ?_⟩
  have e1 : (ps.map fun (x : Nat × Operand) => (x.1, f x.2)).toList = ps.toList.map fun p => (p.1, f p.2) := by simp
  have hc : ¬ (q * s > 2 ^ 24) := by omega
  have hcell : ∀ zz : Value, (zz = v ∨ q * s = 0) → (if q * s = 0 then (#[] : Array Value) else zz.cells) = (if q * s = 0 then #[] else v.cells) := fun zz hzz => by
    by_cases h0 : q * s = 0
    · simp [h0]
    · rcases hzz with rfl | h1
      · rfl
      · exact absurd h1 h0
  by_cases h0 : q * s = 0
  · have hrow : ((Array.range (q * s)).map fun i => (#[] : Array Value)[i % (#[] : Array Value).size]!) = ((List.replicate q v.cells.toList).flatten).toArray := by
      have hl2 : v.cells.size = s := by simpa using hl'
      have : ((List.replicate q v.cells.toList).flatten).length = 0 := by
        have : ((List.replicate q v.cells.toList).flatten).length = q * v.cells.size := by simp
        rw [this, hl2]; exact h0
      rw [List.length_eq_zero_iff.1 this, h0]; simp
    simp only [execOp, Instr.buildSlice, Sem.run_bind, run_underlying hu, Result.andThen_ok, size_of_szT hs, Sem.run_ite, if_neg hc, if_pos h0, Sem.run_pure]
    rw [e1, hrow, h8]
    simp [newRow]
  · have hrow : ((Array.range (q * s)).map fun i => v.cells[i % v.cells.size]!) = ((List.replicate q v.cells.toList).flatten).toArray := by
      have := range_cells v.cells.toList q
      rw [hl'] at this
      simpa using this
    simp only [execOp, Instr.buildSlice, Sem.run_bind, run_underlying hu, Result.andThen_ok, size_of_szT hs, Sem.run_ite, if_neg hc, if_neg h0, h4, Sem.run_pure]
    rw [e1, hrow, h8]
    simp [newRow]
theorem new_mks {e s bytes : Nat} {z : List S} {ti : TypeInfo} (hu : P.underlying t = some (.slice e)) (hz : zeroL P e = some z) (hs : szT P e = some s) (hl : z.length = s) (hi : P.info? e = some ti) (hb : ti.bytes ≤ 1000000) (hr : r_mks (dstP n d) e z (trA n x) (trA n y) ih endK env h nx dd = .C e' env' h' nx1 dd') : NewR P n env h nx env' h' ⟨d, .makeSlice t x y, ty, pos, af, g⟩ := by
  obtain ⟨i1, a, h1, h2⟩ := onI_ok hr (fun n => by simp)
  obtain ⟨i2, b, h3, h4⟩ := onI_ok h2 (fun n => by simp)
  obtain ⟨l, rfl, h5⟩ := onN_ok h4 (fun n => by simp)
  obtain ⟨c, rfl, h6⟩ := onN_ok h5 (fun n => by simp)
  obtain ⟨h7, h8⟩ := cond_ok h6 (fun n => by simp)
  obtain ⟨nx', h9, h10⟩ := newK_ok h8 (fun n => by simp)
  injection h10 with a1 a2 a3 a4 a5; subst a2 a3
  refine ⟨_, _, rfl, rfl, fun σ f hE => ?_⟩
  rw [Bool.and_eq_true] at h7
  have g1 := Nat.le_of_ble_eq_true h7.1
  have g2 := Nat.le_of_ble_eq_true h7.2
  have hx := okV_i (hE x (by simp [Op.operands]) _ h1)
  have hy := okV_i (hE y (by simp [Op.operands]) _ h3)
  obtain ⟨v, h11, h12⟩ := zeroL_ok (σ := σ) hz
  have hl' : v.cells.size = s := by have := h11.length; simp at this; omega
  refine ⟨_, 0, fun b => .slice (some ⟨b, 0, none⟩) l c, .cells (q := e) (rep_ok h11 c), fun b => ⟨b, 0, Sg.ext_same _ _, rfl⟩, fun w => ?_⟩
  have hti : (typeInfo e).run P w = .ok ti w := by simp [typeInfo, hi]
  have w1 : IntKind.i64.wrap (l : Int) = l := wrap_i64 (by omega)
  have w2 : IntKind.i64.wrap (c : Int) = c := wrap_i64 (by omega)
  have hbc : (ti.bytes : Int) * (c : Int) ≤ 2 ^ 48 := by
    have : ti.bytes * c ≤ 1000000 * 1000000 := Nat.mul_le_mul hb g2
    have h2 : ((ti.bytes * c : Nat) : Int) ≤ ((1000000 * 1000000 : Nat) : Int) := by exact_mod_cast this
    rw [Int.natCast_mul] at h2
    omega
  have hrow : c * s ≠ 0 → ((Array.range (c * s)).map fun i => v.cells[i % v.cells.size]!) = ((List.replicate c v.cells.toList).flatten).toArray := fun h0 => by
    have := range_cells v.cells.toList c
    simp only [Array.length_toList, Array.toArray_toList] at this
    rw [hl'] at this ⊢
    exact this
  have ha : ∀ (q : IntKind) (k : Int) (w : World), (asInt (.int q k)).run P w = .ok k w := fun q k w => by simp [asInt, asIntOf, Sem.run_bind]
  have h1' : ¬ ((l : Int) < 0) := by omega
  have h2' : ¬ ((l : Int) > (c : Int)) := by omega
  have h3' : (decide ((c : Int) < 0) || decide ((ti.bytes : Int) * (c : Int) > 2 ^ 48)) = false := by simp; omega
  simp only [execOp, hx, hy, Instr.makeSlice, Sem.run_bind, run_underlying hu, Result.andThen_ok, ha, Sem.run_pure, hti, w1, w2]
  simp only [h3', Bool.false_eq_true, false_or, h1', h2', if_false, Sem.run_ite, or_self, decide_false, Bool.or_self, Bool.or_false]
  by_cases h0 : c * s = 0
  · have hl0 : ((List.replicate c v.cells.toList).flatten) = [] := by
      apply List.length_eq_zero_iff.1
      have : ((List.replicate c v.cells.toList).flatten).length = c * v.cells.size := by simp
      rw [this, hl']; exact h0
    rw [hl0]
    simp only [Int.toNat_natCast, run_askRoom, size_of_szT hs, Sem.run_bind, Result.andThen_ok, h0, if_true, Sem.run_pure, newRow, run_newObj, World.alloc_eq]
    rw [show (Array.map (fun (x : Nat) => (#[] : Array Value)[x % (#[] : Array Value).size]!) (Array.range 0)) = #[] by simp]
  · simp only [Int.toNat_natCast, run_askRoom, size_of_szT hs, Sem.run_bind, Result.andThen_ok, if_neg h0, h12, Sem.run_pure, Sem.run_ite, hrow h0, newRow, run_newObj, World.alloc_eq]
theorem failedC {m : Nat} {p : Prop} {k : Kt} (hr : (failed m).run ih k env h nx dd = .C e' env' h' nx1 dd') : p := failed_ok hr (fun n => by simp)
theorem newOp {q : Bool} {op : Op} (hn : isNew op = true) (hr : (trOp P n q (dstP n d) op).run ih endK env h nx dd = .C e' env' h' nx1 dd') : NewR P n env h nx env' h' ⟨d, op, ty, pos, af, g⟩ := by
  cases op with
  | alloc t =>
    simp only [trOp] at hr
    split at hr
    · rename_i z hz; exact new_new (ih := ih) hz hr
    · exact failedC hr
  | box t x => exact new_box (ih := ih) hr
  | buildSlice t k' ps =>
    simp only [trOp] at hr
    split at hr
    · rename_i e hu
      split at hr
      · rename_i s z hs hz
        obtain ⟨h1, h2⟩ := condF_ok hr (fun n => by simp)
        rw [Bool.and_eq_true] at h1
        exact new_bsl (ih := ih) hu hz hs (Nat.eq_of_beq_eq_true h1.2) (Nat.le_of_ble_eq_true h1.1) h2
      · exact failedC hr
    · exact failedC hr
  | makeSlice t x y =>
    simp only [trOp] at hr
    split at hr
    · rename_i e hu
      split at hr
      · rename_i s z hs hz
        obtain ⟨h1, h2⟩ := condF_ok hr (fun n => by simp)
        rw [Bool.and_eq_true] at h1
        obtain ⟨ti, hi, hb⟩ := info_of h1.2
        exact new_mks (ih := ih) (bytes := 0) hu hz hs (Nat.eq_of_beq_eq_true h1.1) hi hb h2
      · exact failedC hr
    · exact failedC hr
  | makeMap t rr =>
    cases rr with
    | none => exact new_mkm (ih := ih) hr
    | some x => exact failedC hr
  | _ => cases hn
end
abbrev ZT := Kd × Option K4 × Rn
section
variable {ih : Ih} {dd : List D}
theorem foldD_cons (o : ZT) (l : List ZT) (s : DS) : foldD ih dd (o :: l) s = (match stepD ih dd o s with | some s => foldD ih dd l s | none => none) := by
  show Option.rec (motive := fun _ => Option DS) none (foldD ih dd l) (stepD ih dd o s) = _
  cases stepD ih dd o s <;> rfl
theorem trace : ∀ (l : List ZT) (s0 s : DS), foldD ih dd l s0 = some s → ∃ S : Nat → DS, S 0 = s0 ∧ S l.length = s ∧ ∀ i o, l[i]? = some o → stepD ih dd o (S i) = some (S (i + 1))
  | [], s0, s, h => ⟨fun _ => s0, rfl, by injection h, by simp⟩
  | o :: l, s0, s, h => by
    rw [foldD_cons] at h
    split at h
    · rename_i s1 h1
      obtain ⟨S, h2, h3, h4⟩ := trace l s1 s h
      refine ⟨fun i => match i with | 0 => s0 | i + 1 => S i, rfl, h3, fun i o' hi => ?_⟩
      cases i with
      | zero => simp at hi; subst hi; show stepD ih dd o s0 = some (S 0); rw [h2]; exact h1
      | succ i => exact h4 i o' (by simpa using hi)
    · cases h
theorem onC5_ok {r : Rs} {f : En → Hp → Nm → Option DS} {s : DS} (h : onC5 r f = some s) : ∃ env hh nx ds, r = .C .n env hh nx ds ∧ f env hh nx = some s := by
  unfold onC5 at h
  split at h
  · exact ⟨_, _, _, _, rfl, h⟩
  · cases h
theorem step_p {d : Option K4} {r : Rn} {s t : DS} (h : stepD ih dd (.p, d, r) s = some t) : ∃ env' hh nx ds, r ih endK s.env noHp topN dd = .C .n env' hh nx ds ∧ t = { s with env := mrg d env' s.env } := by
  obtain ⟨env, hh, nx, ds, h1, h2⟩ := onC5_ok (show onC5 _ _ = _ from h)
  injection h2 with h2; subst h2
  exact ⟨env, hh, nx, ds, h1, rfl⟩
theorem step_n {d : Option K4} {r : Rn} {s t : DS} (h : stepD ih dd (.n, d, r) s = some t) : get8 s.res s.h = none ∧ ∃ env' h' nx ds res', r ih endK s.env s.h s.res dd = .C .n env' h' nx ds ∧ res'.val = s.res.val + 1 ∧ t = { s with env := mrg d env' s.env, h := h', res := res' } := by
  have h' : (match get8 s.res s.h with | none => onC5 (r ih endK s.env s.h s.res dd) fun env h _ => suc8 s.res (fun res => some { s with env := mrg d env s.env, h := h, res := res }) none | some _ => none) = some t := h
  split at h'
  · rename_i h0
    obtain ⟨env, hh, nx, ds, h1, h2⟩ := onC5_ok h'
    rcases suc8_eq s.res (fun res => some ({ s with env := mrg d env s.env, h := hh, res := res } : DS)) none with ⟨n', g1, g2⟩ | g2
    · rw [g2] at h2; injection h2 with h2; subst h2
      exact ⟨h0, env, hh, nx, ds, n', h1, g1, rfl⟩
    · rw [g2] at h2; cases h2
  · cases h'
theorem step_e {d : Option K4} {r : Rn} {s t : DS} (h : stepD ih dd (.e, d, r) s = some t) : ∃ hp nx pt env' h' nx' ds, s.past = (hp, nx) :: pt ∧ r ih endK s.env s.h nx dd = .C .n env' h' nx' ds ∧ t = { s with env := mrg d env' s.env, h := h', past := (h', nx') :: s.past, ec := s.ec + 1 } := by
  unfold stepD at h
  cases hp : s.past with
  | nil => simp only [hp] at h; cases h
  | cons a pt =>
    obtain ⟨hh, nx⟩ := a
    simp only [hp] at h
    obtain ⟨env, h', nx', ds, h1, h2⟩ := onC5_ok h
    injection h2 with h2; subst h2
    exact ⟨hh, nx, pt, env, h', nx', ds, rfl, h1, by simp⟩
theorem step_r {back fwd : Nat} {d : Option K4} {r : Rn} {s t : DS} (h : stepD ih dd (.r back fwd, d, r) s = some t) : ∃ hp nx pt env' hh nx' ds, s.past = (hp, nx) :: pt ∧ r ih endK s.env hp nx dd = .C .n env' hh nx' ds ∧
    t = { s with env := mrg d env' s.env, recs := cond (Nat.beq (Nat.add back fwd) 0) s.recs (⟨r, s.env, getD d env', d, s.ec, back, fwd⟩ :: s.recs) } := by
  unfold stepD at h
  cases hp : s.past with
  | nil => simp only [hp] at h; cases h
  | cons a pt =>
    obtain ⟨hh, nx⟩ := a
    simp only [hp] at h
    obtain ⟨env, h', nx', ds, h1, h2⟩ := onC5_ok h
    injection h2 with h2; subst h2
    exact ⟨hh, nx, pt, env, h', nx', ds, rfl, h1, by simp [hp]⟩
theorem step_past {o : ZT} {s t : DS} (h : stepD ih dd o s = some t) : (t.past = s.past ∧ t.ec = s.ec) ∨ ∃ a, t.past = a :: s.past ∧ t.ec = s.ec + 1 := by
  obtain ⟨kd, d, r⟩ := o
  cases kd with
  | p => obtain ⟨_, _, _, _, _, rfl⟩ := step_p h; exact .inl ⟨rfl, rfl⟩
  | n => obtain ⟨_, _, _, _, _, _, _, _, rfl⟩ := step_n h; exact .inl ⟨rfl, rfl⟩
  | e => obtain ⟨_, _, _, _, _, _, _, _, _, rfl⟩ := step_e h; exact .inr ⟨_, rfl, rfl⟩
  | r back fwd => obtain ⟨_, _, _, _, _, _, _, _, _, rfl⟩ := step_r h; exact .inl ⟨rfl, rfl⟩
theorem past_len {l : List ZT} {S : Nat → DS} (hS : ∀ i o, l[i]? = some o → stepD ih dd o (S i) = some (S (i + 1))) (h0 : (S 0).past.length = (S 0).ec + 1) : ∀ i, i ≤ l.length → (S i).past.length = (S i).ec + 1
  | 0, _ => h0
  | i + 1, hi => by
    have ih1 := past_len hS h0 i (by omega)
    rcases step_past (hS i _ (List.getElem?_eq_getElem (by omega))) with ⟨h1, h2⟩ | ⟨a, h1, h2⟩
    · rw [h1, h2]; exact ih1
    · rw [h1, h2]; simp; exact ih1
theorem past_pre {l : List ZT} {S : Nat → DS} (hS : ∀ i o, l[i]? = some o → stepD ih dd o (S i) = some (S (i + 1))) (i : Nat) : ∀ k, i + k ≤ l.length → ∃ pre, (S (i + k)).past = pre ++ (S i).past
  | 0, _ => ⟨[], rfl⟩
  | k + 1, hk => by
    obtain ⟨pre, h⟩ := past_pre hS i k (by omega)
    rcases step_past (hS (i + k) _ (List.getElem?_eq_getElem (by omega))) with ⟨h1, _⟩ | ⟨a, h1, _⟩
    · exact ⟨pre, by rw [← h, ← h1]; rfl⟩
    · exact ⟨a :: pre, by rw [List.cons_append, ← h, ← h1]; rfl⟩
theorem past_at {l : List ZT} {S : Nat → DS} (hS : ∀ i o, l[i]? = some o → stepD ih dd o (S i) = some (S (i + 1))) (h0 : (S 0).past.length = (S 0).ec + 1) {i : Nat} (hi : i ≤ l.length) {a : Hp × Nm} {pt : List (Hp × Nm)} (hp : (S i).past = a :: pt) : (S l.length).past.reverse[(S i).ec]? = some a := by
  obtain ⟨pre, h⟩ := past_pre hS i (l.length - i) (by omega)
  rw [show i + (l.length - i) = l.length by omega] at h
  have hl := past_len hS h0 i hi
  rw [hp] at hl
  simp only [List.length_cons, Nat.add_right_cancel_iff] at hl
  rw [h, hp, List.reverse_append, List.reverse_cons, ← hl]
  rw [List.getElem?_append_left (by simp)]
  rw [List.getElem?_append_right (by simp)]
  simp
theorem agains_ok {p : Rec} : ∀ {k : Nat} {l : List (Hp × Nm)}, agains ih dd p k l = true → ∀ j, j < k → ∃ a, l[j]? = some a ∧ again ih dd p a.1 a.2 = true
  | 0, _, _, j, hj => by omega
  | k + 1, [], h, _, _ => by cases h
  | k + 1, (hh, nx) :: l, h, j, hj => by
    have h' : cond (again ih dd p hh nx) (agains ih dd p k l) false = true := h
    cases ha : again ih dd p hh nx with
    | false => rw [ha] at h'; cases h'
    | true =>
      rw [ha] at h'
      cases j with
      | zero => exact ⟨(hh, nx), rfl, ha⟩
      | succ j => exact agains_ok (l := l) h' j (by omega)
theorem drpH_get : ∀ (k : Nat) (l : List (Hp × Nm)) (j : Nat), (drpH k l)[j]? = l[k + j]?
  | 0, l, j => by rw [Nat.zero_add]; rfl
  | k + 1, [], j => by simp [drpH]
  | k + 1, _ :: l, j => by
    show (drpH k l)[j]? = _
    rw [drpH_get k l j, show k + 1 + j = (k + j) + 1 by omega]; rfl
theorem recsB_ok {X : List (Hp × Nm)} : ∀ {l : List Rec}, recsB ih dd X l = true → ∀ p ∈ l, p.back ≤ p.ec ∧ ∀ k, p.ec - p.back ≤ k → k ≤ p.ec + p.fwd → ∃ a, X[k]? = some a ∧ again ih dd p a.1 a.2 = true
  | [], _, p, hp => by cases hp
  | q :: l, h, p, hp => by
    have h' : cond (Nat.ble q.back q.ec && agains ih dd q (Nat.add (Nat.add q.back q.fwd) 1) (drpH (Nat.sub q.ec q.back) X)) (recsB ih dd X l) false = true := h
    cases hc : (Nat.ble q.back q.ec && agains ih dd q (Nat.add (Nat.add q.back q.fwd) 1) (drpH (Nat.sub q.ec q.back) X)) with
    | false => rw [hc] at h'; cases h'
    | true =>
      rw [hc] at h'
      rcases List.mem_cons.1 hp with rfl | hp
      · rw [Bool.and_eq_true] at hc
        have h1 := Nat.le_of_ble_eq_true hc.1
        refine ⟨h1, fun k hk1 hk2 => ?_⟩
        obtain ⟨a, h2, h3⟩ := agains_ok hc.2 (k - (p.ec - p.back)) (by show _ < p.back + p.fwd + 1; omega)
        rw [drpH_get] at h2
        refine ⟨a, ?_, h3⟩
        rw [← h2]; congr 1
        show k = p.ec - p.back + (k - (p.ec - p.back)); omega
      · exact recsB_ok h' p hp
end
theorem beqT_eq : ∀ {l m : List A1}, beqT l m = true → l = m
  | [], [], _ => rfl
  | a :: l, b :: m, h => by
    have h' : (beqA a b && beqT l m) = true := h
    rw [Bool.and_eq_true] at h'
    rw [beqA_eq h'.1, beqT_eq h'.2]
  | [], _ :: _, h => by cases h
  | _ :: _, [], h => by cases h
theorem beqV_eq {a b : V} (h : beqV a b = true) : a = b := by
  cases a <;> cases b <;> first | (cases h; done) | rw [beqS_eq h] | rw [beqL_eq h] | rw [beqT_eq h]
theorem beqO_eq {a b : Option V} (h : beqO a b = true) : a = b ∧ a ≠ none := by
  cases a <;> cases b <;> first | (cases h; done) | (rw [beqV_eq h]; simp)
end Go.Proofs.YtpcdcemcjbeajaaGreatDoor
set_option linter.unusedVariables false
set_option linter.unusedSimpArgs false
namespace Go.Proofs.YtpcdcemcjbeajaaGreatDoor
open Go.RowKit
structure HRc (σ : Sg) (H : Nm → Option O) (L : List Ent) : Prop where
  inj : ∀ n m x y b c d, H n = some x → H m = some y → σ n = some (b, c) → σ m = some (b, d) → n = m
  own : ∀ n o, H n = some o → ∃ b c ob, σ n = some (b, c) ∧ (b, ob) ∈ L ∧ OR σ c o ob
section
variable {σ σ' : Sg} {nx : Nm} {h : Hp} {H H' : Nm → Option O} {L L' : List Ent}
theorem HRc.hr (hc : HRc σ (fun n => get8 n h) L) (hf : ∀ m : Nm, nx.val ≤ m.val → σ m = none) : HR σ nx h L := ⟨hf, hc.inj, hc.own⟩
theorem HR.c (hH : HR σ nx h L) : HRc σ (fun n => get8 n h) L := ⟨hH.inj, hH.own⟩
theorem HRc.sub (hc : HRc σ H L) (hs : ∀ n o, H' n = some o → H n = some o) : HRc σ H' L :=
  ⟨fun n m x y b c d hn hm => hc.inj n m x y b c d (hs _ _ hn) (hs _ _ hm), fun n o hn => hc.own n o (hs _ _ hn)⟩
theorem HRc.mem (hc : HRc σ H L) (hs : ∀ p ∈ L, p ∈ L') : HRc σ H L' :=
  ⟨hc.inj, fun n o hn => let ⟨b, c, ob, h1, h2, h3⟩ := hc.own n o hn; ⟨b, c, ob, h1, hs _ h2, h3⟩⟩
theorem ext_raw {nm : Nm} (hn : σ nm = none) (x : Nat × Nat) : Sg.sub σ (σ.ext nm x) := ⟨fun m y hy => by
  by_cases e : m = nm
  · subst e; rw [hn] at hy; cases hy
  · rw [Sg.ext_ne e]; exact hy, rfl⟩
theorem HRc.new {nm : Nm} {b cap : Nat} {o : O} {ob : Obj} (hc : HRc σ H L) (hn : σ nm = none) (hb : ∀ p ∈ L, p.1 ≠ b) (ho : OR σ cap o ob) : HRc (σ.ext nm (b, cap)) (fun n => cond (nmEq n nm) (some o) (H n)) ((b, ob) :: L) := by
  have hraw := ext_raw (σ := σ) hn (b, cap)
  have key : ∀ n y, (cond (nmEq n nm) (some o) (H n)) = some y → (n = nm ∧ y = o) ∨ (n ≠ nm ∧ H n = some y) := fun n y hy => by
    cases e : nmEq n nm with
    | true => rw [e] at hy; injection hy with hy; exact .inl ⟨nmEq_t e, hy.symm⟩
    | false => rw [e] at hy; exact .inr ⟨nmEq_f e, hy⟩
  refine ⟨fun n m x y b' c d hn' hm' hsn hsm => ?_, fun n y hy => ?_⟩
  · rcases key n x hn' with ⟨rfl, _⟩ | ⟨e1, hn1⟩
    · rcases key m y hm' with ⟨rfl, _⟩ | ⟨e2, hm1⟩
      · rfl
      · obtain ⟨b1, c1, ob1, h1, h2, _⟩ := hc.own m y hm1
        rw [Sg.ext_same] at hsn; rw [Sg.ext_ne e2, h1] at hsm
        injection hsn with hsn; injection hsn with a1 a2; injection hsm with hsm; injection hsm with a3 a4
        exact absurd (by rw [a3, ← a1]) (hb _ h2)
    · rcases key m y hm' with ⟨rfl, _⟩ | ⟨e2, hm1⟩
      · obtain ⟨b1, c1, ob1, h1, h2, _⟩ := hc.own n x hn1
        rw [Sg.ext_same] at hsm; rw [Sg.ext_ne e1, h1] at hsn
        injection hsn with hsn; injection hsn with a1 a2; injection hsm with hsm; injection hsm with a3 a4
        exact absurd (by rw [a1, ← a3]) (hb _ h2)
      · rw [Sg.ext_ne e1] at hsn; rw [Sg.ext_ne e2] at hsm
        exact hc.inj n m x y b' c d hn1 hm1 hsn hsm
  · rcases key n y hy with ⟨rfl, rfl⟩ | ⟨e1, hn1⟩
    · exact ⟨b, cap, ob, Sg.ext_same _ _, List.mem_cons_self, ho.raw hraw⟩
    · obtain ⟨b1, c1, ob1, h1, h2, h3⟩ := hc.own n y hn1
      exact ⟨b1, c1, ob1, hraw _ _ h1, List.mem_cons_of_mem _ h2, h3.raw hraw⟩
end
end Go.Proofs.YtpcdcemcjbeajaaGreatDoor
set_option linter.unusedVariables false
set_option linter.unusedSimpArgs false
namespace Go.Proofs.YtpcdcemcjbeajaaGreatDoor
open Go.RowKit
theorem zip3_get {n : Nat} : ∀ {ks : List Kd} {os : List Oper} {rs : List Rn} {i : Nat} {k : Kd} {o : Oper} {r : Rn}, ks[i]? = some k → os[i]? = some o → rs[i]? = some r → (zip3 ks os rs n)[i]? = some (k, dstP n o.dst, r)
  | k' :: ks, o' :: os, r' :: rs, 0, k, o, r, h1, h2, h3 => by
    simp at h1 h2 h3; subst h1 h2 h3; rfl
  | k' :: ks, o' :: os, r' :: rs, i + 1, k, o, r, h1, h2, h3 => zip3_get (i := i) (by simpa using h1) (by simpa using h2) (by simpa using h3)
  | [], _, _, i, _, _, _, h, _, _ => by simp at h
  | _ :: _, [], _, i, _, _, _, _, h, _ => by simp at h
  | _ :: _, _ :: _, [], i, _, _, _, _, _, h => by simp at h
theorem zip3_len {n : Nat} : ∀ {ks : List Kd} {os : List Oper} {rs : List Rn}, ks.length = os.length → rs.length = os.length → (zip3 ks os rs n).length = os.length
  | [], [], [], _, _ => rfl
  | k :: ks, o :: os, r :: rs, h1, h2 => by
    show (zip3 ks os rs n).length + 1 = os.length + 1
    rw [zip3_len (by simpa using h1) (by simpa using h2)]
  | [], _ :: _, _, h, _ => by simp at h
  | _ :: _, [], _, h, _ => by simp at h
  | [], [], _ :: _, _, h => by simp at h
  | _ :: _, _ :: _, [], _, h => by simp at h
theorem trOps_len {P : Program} {n : Nat} {q : Bool} {ol : List Oper} : ∀ l : List Oper, (trOps P n q ol l).length = l.length
  | [] => rfl
  | o :: l => by show (trOps P n q ol l).length + 1 = _; rw [trOps_len l]; rfl
theorem trOps_get {P : Program} {n : Nat} {q : Bool} {ol : List Oper} : ∀ {l : List Oper} {i : Nat} {o : Oper}, l[i]? = some o → (trOps P n q ol l)[i]? = some (guarded (trG n ol o.guard) (dstP n o.dst) (trOp P n q (dstP n o.dst) o.op))
  | [], i, o, h => by simp at h
  | a :: l, 0, o, h => by simp at h; subst h; rfl
  | a :: l, i + 1, o, h => trOps_get (l := l) (i := i) (by simpa using h)
theorem kinds_len (l : List Oper) (cl : List (List Nat)) : (kinds l cl).length = l.length := by simp [kinds]
theorem kinds_get {l : List Oper} {cl : List (List Nat)} {i : Nat} {o : Oper} (h : l[i]? = some o) : (kinds l cl)[i]? = some (match kind0 o.op with
  | 0 => .p
  | 1 => .r (((effs l).filter fun e => Nat.blt e i && !((cl.getD i []).contains e)).length) (((effs l).filter fun e => Nat.blt i e && !((cl.getD e []).contains i)).length)
  | 2 => .e
  | _ => .n) := by
  simp only [kinds, List.getElem?_map, List.getElem?_zipIdx, h, Option.map_some, Nat.zero_add]
  rfl
end Go.Proofs.YtpcdcemcjbeajaaGreatDoor
set_option linter.unusedVariables false
set_option linter.unusedSimpArgs false
namespace Go.Proofs.YtpcdcemcjbeajaaGreatDoor
open Go.RowKit
def selI (κ : Nat) (l : List Oper) (k : Nat) : List Nat := (l.zipIdx k).filterMap fun p => cond (Nat.beq (kind0 p.1.op) κ) (some p.2) none
theorem selI_cons (κ : Nat) (o : Oper) (l : List Oper) (k : Nat) : selI κ (o :: l) k = (match Nat.beq (kind0 o.op) κ with | true => k :: selI κ l (k + 1) | false => selI κ l (k + 1)) := by
  unfold selI
  rw [List.zipIdx_cons, List.filterMap_cons]
  cases h : Nat.beq (kind0 o.op) κ <;> simp [h]
theorem selI_ge {κ : Nat} : ∀ {l : List Oper} {k j : Nat}, j ∈ selI κ l k → k ≤ j
  | [], k, j, h => by simp [selI] at h
  | o :: l, k, j, h => by
    rw [selI_cons] at h
    split at h
    · rcases List.mem_cons.1 h with rfl | h
      · exact Nat.le_refl _
      · have := selI_ge h; omega
    · have := selI_ge h; omega
theorem selI_sorted {κ : Nat} : ∀ (l : List Oper) (k : Nat), (selI κ l k).Pairwise (· < ·)
  | [], k => by simp [selI]
  | o :: l, k => by
    rw [selI_cons]
    split
    · exact List.pairwise_cons.2 ⟨fun j hj => by have := selI_ge hj; omega, selI_sorted l (k + 1)⟩
    · exact selI_sorted l (k + 1)
theorem selI_mem {κ : Nat} : ∀ {l : List Oper} {k i : Nat}, k + i ∈ selI κ l k ↔ ∃ o, l[i]? = some o ∧ kind0 o.op = κ
  | [], k, i => by simp [selI]
  | o :: l, k, 0 => by
    rw [selI_cons]
    cases h : Nat.beq (kind0 o.op) κ with
    | true => simp [Nat.eq_of_beq_eq_true h]
    | false =>
      simp only [Nat.add_zero, List.getElem?_cons_zero, Option.some.injEq]
      refine ⟨fun hm => by have := selI_ge hm; omega, fun ⟨o', he, hk⟩ => ?_⟩
      subst he; rw [hk] at h; simp at h
  | o :: l, k, i + 1 => by
    have ih := selI_mem (κ := κ) (l := l) (k := k + 1) (i := i)
    rw [selI_cons, List.getElem?_cons_succ, ← ih, show k + (i + 1) = k + 1 + i by omega]
    cases h : Nat.beq (kind0 o.op) κ with
    | true => simp only [List.mem_cons]; exact ⟨fun hm => hm.resolve_left (by omega), .inr⟩
    | false => rfl
theorem countP_split {α : Type} {p q r : α → Bool} : ∀ {l : List α}, (∀ x ∈ l, p x = true → q x = true ∨ r x = true) → l.countP p ≤ l.countP q + l.countP r
  | [], _ => by simp
  | x :: l, h => by
    have ih := countP_split (l := l) (fun y hy => h y (List.mem_cons_of_mem _ hy))
    have hx := h x List.mem_cons_self
    simp only [List.countP_cons]
    cases hp : p x with
    | false => simp; omega
    | true => rcases hx hp with hq | hr <;> simp [*] <;> omega
def cntK (κ : Nat) (l : List Oper) (i : Nat) : Nat := (selI κ l 0).countP (fun e => Nat.blt e i)
theorem count_lt : ∀ {l : List Nat}, l.Pairwise (· < ·) → ∀ i, l.countP (fun e => Nat.blt e (i + 1)) = l.countP (fun e => Nat.blt e i) + (if i ∈ l then 1 else 0)
  | [], _, i => by simp
  | x :: l, h, i => by
    obtain ⟨h1, h2⟩ := List.pairwise_cons.1 h
    have ih := count_lt h2 i
    simp only [List.countP_cons, ih, List.mem_cons]
    by_cases e : i = x
    · subst e
      have : i ∉ l := fun hm => by have := h1 i hm; omega
      have e3 : (i = i ∨ i ∈ l) := .inl rfl
      rw [if_neg this, if_pos e3]
      have e1 : Nat.blt i (i + 1) = true := by rw [Nat.blt_eq]; omega
      have e2 : Nat.blt i i = false := blt_false (by omega)
      rw [if_pos e1, if_neg (by rw [e2]; simp)]
    · have e1 : Nat.blt x (i + 1) = Nat.blt x i := by
        by_cases h3 : x < i
        · rw [blt_true h3, blt_true (by omega)]
        · rw [blt_false h3, blt_false (by omega)]
      have e2 : (i = x ∨ i ∈ l) ↔ i ∈ l := ⟨fun hm => hm.resolve_left e, .inr⟩
      rw [e1]; simp only [e2]; omega
theorem cntK_succ (κ : Nat) {l : List Oper} {i : Nat} {o : Oper} (h : l[i]? = some o) : cntK κ l (i + 1) = cntK κ l i + (if kind0 o.op = κ then 1 else 0) := by
  unfold cntK
  rw [count_lt (selI_sorted l 0)]
  congr 1
  have := selI_mem (κ := κ) (l := l) (k := 0) (i := i)
  rw [Nat.zero_add] at this
  by_cases hk : kind0 o.op = κ
  · rw [if_pos hk, if_pos (this.2 ⟨o, h, hk⟩)]
  · rw [if_neg hk, if_neg (fun hm => by obtain ⟨o', h1, h2⟩ := this.1 hm; rw [h] at h1; injection h1 with h1; subst h1; exact hk h2)]
theorem cntK_zero (κ : Nat) (l : List Oper) : cntK κ l 0 = 0 := by
  unfold cntK
  rw [List.countP_eq_zero]
  intro e _; simp
theorem chain_prev {cl : List (List Nat)} : ∀ {es : List Nat}, es.Pairwise (· < ·) → chainB cl es = true → ∀ i ∈ es, ∀ j ∈ es, j < i → ∃ a ∈ es, j ≤ a ∧ a < i ∧ a ∈ cl.getD i []
  | [], _, _, i, hi, _, _, _ => by cases hi
  | [a], _, _, i, hi, j, hj, h => by simp at hi hj; omega
  | a :: b :: r, hp, hc, i, hi, j, hj, h => by
    obtain ⟨h1, h2⟩ := List.pairwise_cons.1 hp
    have hc' : ((cl.getD b []).contains a && chainB cl (b :: r)) = true := hc
    rw [Bool.and_eq_true] at hc'
    have hab := h1 b List.mem_cons_self
    rcases List.mem_cons.1 hi with rfl | hi2
    · rcases List.mem_cons.1 hj with rfl | hj
      · omega
      · have := h1 j hj; omega
    · clear hi
      by_cases eb : i = b
      · subst eb
        have hja : j = a := by
          rcases List.mem_cons.1 hj with rfl | hj
          · rfl
          · rcases List.mem_cons.1 hj with rfl | hj
            · omega
            · have := (List.pairwise_cons.1 h2).1 j hj; omega
        subst hja
        exact ⟨j, List.mem_cons_self, Nat.le_refl _, h, by simpa using hc'.1⟩
      · have hbi : b < i := by
          rcases List.mem_cons.1 hi2 with rfl | hi
          · exact absurd rfl eb
          · exact (List.pairwise_cons.1 h2).1 i hi
        rcases List.mem_cons.1 hj with rfl | hj
        · obtain ⟨a', g1, g2, g3, g4⟩ := chain_prev h2 hc'.2 i hi2 b List.mem_cons_self hbi
          exact ⟨a', List.mem_cons_of_mem _ g1, by omega, g3, g4⟩
        · obtain ⟨a', g1, g2, g3, g4⟩ := chain_prev h2 hc'.2 i hi2 j hj h
          exact ⟨a', List.mem_cons_of_mem _ g1, g2, g3, g4⟩
theorem cl_lt {l : List Oper} {cl : List (List Nat)} (hc : clB l cl 0 l = true) (hb : backC l 0 = true) : ∀ i, i < l.length → ∀ q ∈ cl.getD i [], q < i := by
  intro i
  induction i using Nat.strongRecOn with
  | _ i ih =>
    intro hi q hq
    have ho := List.getElem?_eq_getElem hi
    obtain ⟨e, he, hbd, h⟩ := clB_get hc i _ ho q (by simpa using hq)
    have hlt := backC_get hb i _ ho e he hbd
    rw [Nat.zero_add] at hlt
    rcases h with rfl | h
    · exact hlt
    · have := ih e.on hlt (by omega) q h; omega
theorem bindsOn_mem {o : Oper} {j : Nat} (h : j ∈ bindsOn o) : ∃ e ∈ o.after, Region.binds .any e = true ∧ e.on = j := by
  unfold bindsOn at h
  obtain ⟨e, he, h2⟩ := List.mem_filterMap.1 h
  cases hb : Region.binds .any e with
  | false => rw [hb] at h2; cases h2
  | true => rw [hb] at h2; injection h2 with h2; exact ⟨e, by simpa using he, hb, h2⟩
theorem allAt_of {p : Nat → Oper → Prop} : ∀ {l : List Oper} {k : Nat}, (∀ i o, l[i]? = some o → p (k + i) o) → AllAt p k l
  | [], _, _ => trivial
  | o :: l, k, h => ⟨h 0 o rfl, allAt_of (fun i o' hi => by have := h (i + 1) o' (by simpa using hi); rwa [show k + (i + 1) = k + 1 + i by omega] at this)⟩
theorem addN_ok {f : Nm → Rs} {r : Rs} : ∀ {k : Nat} {p : Nm}, addN k p f = r → good r → ∃ p' : Nm, p'.val = p.val + k ∧ f p' = r ∧ ∀ j, j ≤ k → ∃ q : Nm, q.val = p.val + j
  | 0, p, h, _ => ⟨p, rfl, h, fun j hj => ⟨p, by omega⟩⟩
  | k + 1, p, h, hg => by
    obtain ⟨p1, h1, h2⟩ := newK_ok (show newK p (fun p => addN k p f) = r from h) hg
    obtain ⟨p', h3, h4, h5⟩ := addN_ok h2 hg
    refine ⟨p', by omega, h4, fun j hj => ?_⟩
    cases j with
    | zero => exact ⟨p, by omega⟩
    | succ j => obtain ⟨q, hq⟩ := h5 j (by omega); exact ⟨q, by omega⟩
theorem mrg_ne {n : Nat} {d : Option Nat} {t : Nat} {env' env : En} (h : d ≠ some t) (ht : t < 256) : get4 (slotK t) (mrg (dstP n d) env' env) = get4 (slotK t) env := by
  cases d with
  | none => rfl
  | some d =>
    show get4 (slotK t) (mrg (cond (slotB d n) (some (slotK d)) none) env' env) = _
    cases hb : slotB d n with
    | false => rfl
    | true =>
      have hd := slotB_ok hb
      exact get4_ne (fun e => h (by rw [slotK_inj ht hd.2 e])) _ _
theorem slotB_of {t n : Nat} (h1 : t < n) (h2 : t < 256) : slotB t n = true := by unfold slotB; rw [blt_true h1, blt_true h2]; rfl
theorem dstP_some {n t : Nat} (h1 : t < n) (h2 : t < 256) : dstP n (some t) = some (slotK t) := by
  show cond (slotB t n) (some (slotK t)) none = _
  rw [slotB_of h1 h2]; rfl
theorem mrg_same {n t : Nat} {env' env : En} (h1 : t < n) (h2 : t < 256) : get4 (slotK t) (mrg (dstP n (some t)) env' env) = get4 (slotK t) env' := by
  rw [dstP_some h1 h2]; exact get4_same _ _ _
theorem put_same {n t : Nat} {v : V} {env : En} (h1 : t < n) (h2 : t < 256) : get4 (slotK t) (put (dstP n (some t)) v env) = some v := by
  rw [dstP_some h1 h2]; exact get4_same _ _ _
theorem guard_split {n : Nat} {ol : List Oper} {o : Oper} {F : Fx} {ih : Ih} {k : Kt} {env : En} {h : Hp} {nx : Nm} {dd : List D} {r : Rs} {σ : Sg} {ρ : Env} {d : Option K4} (hG : GdOk σ n env ρ ol o) (hr : guarded (trG n ol o.guard) d F ih k env h nx dd = r) (hg : good r) :
    (wantE n ol ρ o = true ∧ F.run ih k env h nx dd = r) ∨ (wantE n ol ρ o = false ∧ k (put d (.t []) env) h nx dd = r) := by
  cases hgd : o.guard with
  | none => rw [hgd] at hr; exact .inl ⟨by unfold wantE; rw [hgd], hr⟩
  | some p =>
    obtain ⟨j, w⟩ := p
    rw [hgd] at hr
    cases hj : (ol[j]?).bind (·.dst) with
    | none =>
      have e : trG n ol (some (j, w)) = .bad := by unfold trG; simp only [hj]
      rw [e] at hr; subst hr; exact good_bad hg
    | some t =>
      have e : trG n ol (some (j, w)) = cond (slotB t n) (.on (slotK t) w) .bad := by unfold trG; simp only [hj]
      rw [e] at hr
      cases hb : slotB t n with
      | false => rw [hb] at hr; subst hr; exact good_bad hg
      | true =>
        rw [hb] at hr
        obtain ⟨hd1, hd2⟩ := slotB_ok hb
        have hr' : guard1 d F (slotK t) w ih k env h nx dd = r := hr
        unfold guard1 at hr'
        have hy : ∀ v, ρ t = v → ylE n ol ρ j = (match v with | .bool b => some b | _ => none) := fun v hv => by
          unfold ylE; rw [hj]; simp only [blt_true hd1, cond_true, hv]
          cases v <;> rfl
        split at hr'
        · rename_i b hs
          have hv : ρ t = .bool b := hG j w t hgd hj hd1 hd2 _ hs
          cases hw : (cond w b (bnot b)) with
          | true =>
            rw [hw] at hr'
            refine .inl ⟨?_, hr'⟩
            unfold wantE; rw [hgd]; simp only [hy _ hv]
            cases w <;> cases b <;> first | rfl | (cases hw; done)
          | false =>
            rw [hw] at hr'
            refine .inr ⟨?_, hr'⟩
            unfold wantE; rw [hgd]; simp only [hy _ hv]
            cases w <;> cases b <;> first | rfl | (cases hw; done)
        · rename_i hs
          have hv : ρ t = undef := by
            obtain ⟨vs, h1, h2⟩ := hG j w t hgd hj hd1 hd2 _ hs
            cases vs with
            | nil => exact h2
            | cons => exact h1.elim
          refine .inr ⟨?_, hr'⟩
          unfold wantE; rw [hgd]; simp only [hy _ hv]
          rfl
        · subst hr'; exact good_bad hg
theorem RL.frame {c : Cx} {ol : List Oper} {o : Oper} {K : Ko} {Qp : Po} {ρ : Env} {ds : Ds} {Lh Ln : List Ent} (hq : c.q = false)
    (h : ∀ w, St c.w0 c.S w (Lh ++ Ln) → RL ⟨c.P, c.rd, c.n, w, keys Lh, c.q⟩ ol [o] (fun ρ ds L' => (keys (L' ++ Ln)).Nodup → K ρ ds (L' ++ Ln)) (fun _ _ _ _ => False) ρ ds Lh) : RL c ol [o] K Qp ρ ds (Lh ++ Ln) := by
  rw [RL_f hq]
  intro w hst
  have h1 := h w hst
  rw [RL_f (c := ⟨c.P, c.rd, c.n, w, keys Lh, c.q⟩) hq] at h1
  have hsub : (keys Lh).Nodup := by
    have := hst.nodup
    rw [List.map_append, List.nodup_append] at this
    exact this.1
  have h2 := h1 w (St.init (fun p hp => hst.own p (List.mem_append_left _ hp)) hsub)
  have tr : ∀ a w', lift ⟨c.P, c.rd, c.n, w, keys Lh, c.q⟩ (nrm (fun ρ ds L' => (keys (L' ++ Ln)).Nodup → K ρ ds (L' ++ Ln)) (fun _ _ _ _ => False)) .normal a w' → lift c (nrm K Qp) .normal a w' := by
    rintro a w' ⟨ρ', ds', L', rfl, h3, h4⟩
    have h5 := hst.comp h3
    exact ⟨ρ', ds', L' ++ Ln, rfl, h5, h4 h5.nodup⟩
  simp only [wpListIn] at h2 ⊢
  split
  · rename_i hw
    rw [if_pos hw] at h2
    refine wpIn_swapQ tr (fun ch a w' => ?_) ?_ h2
    · rintro ⟨ρ', ds', L', rfl, h3, h4⟩
      exact h4.elim
    · rintro ⟨a, w', ρ', ds', L', rfl, h3, h4⟩
      exact h4.elim
  · rename_i hw
    rw [if_neg hw] at h2
    exact ⟨h2.1, tr _ _ h2.2⟩
theorem rdOk_frame {c : Cx} {q : Bool} {w : World} {Lh Ln : List Ent} (h : RdOk c q) (hst : St c.w0 c.S w (Lh ++ Ln)) : RdOk ⟨c.P, c.rd, c.n, w, keys Lh, c.q⟩ q := by
  cases q with
  | false => exact h
  | true =>
    obtain ⟨b, r, h1, h2, h3⟩ := h
    have hlt := (Array.getElem?_eq_some_iff.1 h2).1
    refine ⟨b, r, h1, by rw [← h2]; exact hst.keep b hlt h3, fun hm => ?_⟩
    obtain ⟨p, hp, e⟩ := List.mem_map.1 hm
    rcases hst.free p (List.mem_append_left _ hp) with hf | hf
    · exact h3 (by rw [← e]; exact hf)
    · omega
end Go.Proofs.YtpcdcemcjbeajaaGreatDoor
end
section
set_option linter.unusedVariables false
set_option linter.unusedSimpArgs false
namespace Go.Proofs.YtpcdcemcjbeajaaGreatDoor
open Go.RowKit
noncomputable def opF (P : Program) (n : Nat) (q : Bool) (l : List Oper) (o : Oper) : Rn := guarded (trG n l o.guard) (dstP n o.dst) (trOp P n q (dstP n o.dst) o.op)
structure Tr (P : Program) (n : Nat) (q : Bool) (ih : Ih) (dd : List D) (l : List Oper) (env0 : En) (h0 : Hp) (nx nx1 : Nm) (S : Nat → DS) : Prop where
  draw : drawB l (clOf l []) = true
  s0 : S 0 = ⟨env0, h0, nx, [(h0, nx1)], 0, []⟩
  st : ∀ i z, (zip3 (kinds l (clOf l [])) l (trOps P n q l l) n)[i]? = some z → stepD ih dd z (S i) = some (S (i + 1))
  rcs : recsB ih dd (S l.length).past.reverse (S l.length).recs = true
theorem kind_cases (o : Op) : kind0 o = 0 ∨ kind0 o = 1 ∨ kind0 o = 2 ∨ kind0 o = 3 := by
  unfold kind0; cases isNew o <;> cases isPure o <;> cases isRead o <;> simp
theorem kind_new {o : Op} (h : kind0 o = 3) : isNew o = true := by
  unfold kind0 at h; cases h1 : isNew o <;> cases h2 : isPure o <;> cases h3 : isRead o <;> simp_all
theorem kind_quiet {o : Op} (h : kind0 o = 0 ∨ kind0 o = 1) : quietO o = true := by
  unfold kind0 at h; unfold quietO; cases h1 : isNew o <;> cases h2 : isPure o <;> cases h3 : isRead o <;> simp_all
def backN (l : List Oper) (cl : List (List Nat)) (i : Nat) : Nat := ((effs l).filter fun e => Nat.blt e i && !((cl.getD i []).contains e)).length
def fwdN (l : List Oper) (cl : List (List Nat)) (i : Nat) : Nat := ((effs l).filter fun e => Nat.blt i e && !((cl.getD e []).contains i)).length
theorem effs_eq (l : List Oper) : effs l = selI 2 l 0 := rfl
theorem sel_mem {κ : Nat} {l : List Oper} {i : Nat} : i ∈ selI κ l 0 ↔ ∃ o, l[i]? = some o ∧ kind0 o.op = κ := by
  have := selI_mem (κ := κ) (l := l) (k := 0) (i := i); rwa [Nat.zero_add] at this
theorem cntK_mono (κ : Nat) (l : List Oper) {i j : Nat} (h : i ≤ j) : cntK κ l i ≤ cntK κ l j := by
  unfold cntK
  exact List.countP_mono_left (fun e _ he => by rw [Nat.blt_eq] at he ⊢; omega)
section
variable {P : Program} {n : Nat} {q : Bool} {ih : Ih} {dd : List D} {l : List Oper} {env0 : En} {h0 : Hp} {nx nx1 : Nm} {S : Nat → DS} {i : Nat} {o : Oper}
theorem guard_syn {ol : List Oper} {gd : Option (Nat × Bool)} {F : Fx} {k : Kt} {env : En} {h : Hp} {nx : Nm} {d : Option K4} {e : Ex} {env' : En} {h' : Hp} {nx' : Nm} {ds : List D} (hr : guarded (trG n ol gd) d F ih k env h nx dd = .C e env' h' nx' ds) : F.run ih k env h nx dd = .C e env' h' nx' ds ∨ k (put d (.t []) env) h nx dd = .C e env' h' nx' ds := by
  cases hG : trG n ol gd with
  | no => rw [hG] at hr; exact .inl hr
  | bad => rw [hG] at hr; cases hr
  | on p w =>
    rw [hG] at hr
    have hr' : guard1 d F p w ih k env h nx dd = _ := hr
    unfold guard1 at hr'
    split at hr'
    · rename_i b hs
      cases hw : (cond w b (bnot b)) with
      | true => rw [hw] at hr'; exact .inl hr'
      | false => rw [hw] at hr'; exact .inr hr'
    · exact .inr hr'
    · cases hr'
namespace Tr
theorem parts (hT : Tr P n q ih dd l env0 h0 nx nx1 S) : dstsB l [] = true ∧ backC l 0 = true ∧ clB l (clOf l []) 0 l = true ∧ chainB (clOf l []) (effs l) = true ∧ madeB (clOf l []) (news l) (effs l) = true ∧ slotsB l (clOf l []) = true ∧ l.all (fun o => noDefer o.op) = true := by
  have := hT.draw
  simp only [drawB, Bool.and_eq_true] at this
  obtain ⟨⟨⟨⟨⟨⟨h1, h2⟩, h3⟩, h4⟩, h5⟩, h6⟩, h7⟩ := this
  exact ⟨h1, h2, h3, h4, h5, h6, h7⟩
theorem step (hT : Tr P n q ih dd l env0 h0 nx nx1 S) (h : l[i]? = some o) : stepD ih dd ((match kind0 o.op with | 0 => .p | 1 => .r (backN l (clOf l []) i) (fwdN l (clOf l []) i) | 2 => .e | _ => .n), dstP n o.dst, opF P n q l o) (S i) = some (S (i + 1)) :=
  hT.st i _ (zip3_get (kinds_get h) h (trOps_get h))
theorem sp (hT : Tr P n q ih dd l env0 h0 nx nx1 S) (h : l[i]? = some o) (hk : kind0 o.op = 0) : ∃ env' hh nx' ds, opF P n q l o ih endK (S i).env noHp topN dd = .C .n env' hh nx' ds ∧ S (i + 1) = { S i with env := mrg (dstP n o.dst) env' (S i).env } := by
  have := hT.step h; rw [hk] at this; exact step_p this
theorem sr (hT : Tr P n q ih dd l env0 h0 nx nx1 S) (h : l[i]? = some o) (hk : kind0 o.op = 1) : ∃ hp nx pt env' hh nx' ds, (S i).past = (hp, nx) :: pt ∧ opF P n q l o ih endK (S i).env hp nx dd = .C .n env' hh nx' ds ∧
    S (i + 1) = { S i with env := mrg (dstP n o.dst) env' (S i).env, recs := cond (Nat.beq (Nat.add (backN l (clOf l []) i) (fwdN l (clOf l []) i)) 0) (S i).recs (⟨opF P n q l o, (S i).env, getD (dstP n o.dst) env', dstP n o.dst, (S i).ec, backN l (clOf l []) i, fwdN l (clOf l []) i⟩ :: (S i).recs) } := by
  have := hT.step h; rw [hk] at this; exact step_r this
theorem se (hT : Tr P n q ih dd l env0 h0 nx nx1 S) (h : l[i]? = some o) (hk : kind0 o.op = 2) : ∃ hp nx pt env' h' nx' ds, (S i).past = (hp, nx) :: pt ∧ opF P n q l o ih endK (S i).env (S i).h nx dd = .C .n env' h' nx' ds ∧ S (i + 1) = { S i with env := mrg (dstP n o.dst) env' (S i).env, h := h', past := (h', nx') :: (S i).past, ec := (S i).ec + 1 } := by
  have := hT.step h; rw [hk] at this; exact step_e this
theorem sn (hT : Tr P n q ih dd l env0 h0 nx nx1 S) (h : l[i]? = some o) (hk : kind0 o.op = 3) : get8 (S i).res (S i).h = none ∧ ∃ env' h' nx' ds res', opF P n q l o ih endK (S i).env (S i).h (S i).res dd = .C .n env' h' nx' ds ∧ res'.val = (S i).res.val + 1 ∧ S (i + 1) = { S i with env := mrg (dstP n o.dst) env' (S i).env, h := h', res := res' } := by
  have := hT.step h; rw [hk] at this; exact step_n this
theorem sum (hT : Tr P n q ih dd l env0 h0 nx nx1 S) (h : l[i]? = some o) : (∃ env', (S (i + 1)).env = mrg (dstP n o.dst) env' (S i).env) ∧ (S (i + 1)).ec = (S i).ec + (if kind0 o.op = 2 then 1 else 0) ∧ (S (i + 1)).res.val = (S i).res.val + (if kind0 o.op = 3 then 1 else 0) ∧
    (kind0 o.op ≠ 2 → (S (i + 1)).past = (S i).past) ∧ (kind0 o.op ≠ 2 → kind0 o.op ≠ 3 → (S (i + 1)).h = (S i).h) ∧ (∀ p ∈ (S i).recs, p ∈ (S (i + 1)).recs) := by
  rcases kind_cases o.op with hk | hk | hk | hk
  · obtain ⟨env', hh, nx', ds, _, h2⟩ := hT.sp h hk
    rw [h2, hk]; exact ⟨⟨env', rfl⟩, by simp, by simp, by simp, by simp, fun p hp => hp⟩
  · obtain ⟨hp, nx, pt, env', hh, nx', ds, _, _, h2⟩ := hT.sr h hk
    rw [h2, hk]; refine ⟨⟨env', rfl⟩, by simp, by simp, by simp, by simp, fun p hp => ?_⟩
    show p ∈ cond _ _ _
    cases Nat.beq (Nat.add (backN l (clOf l []) i) (fwdN l (clOf l []) i)) 0 with
    | true => exact hp
    | false => exact List.mem_cons_of_mem _ hp
  · obtain ⟨hp, nx, pt, env', hh, nx', ds, _, _, h2⟩ := hT.se h hk
    rw [h2, hk]; exact ⟨⟨env', rfl⟩, by simp, by simp, by simp, by simp, fun p hp => hp⟩
  · obtain ⟨_, env', hh, nx', ds, res', _, h1, h2⟩ := hT.sn h hk
    rw [h2, hk]; exact ⟨⟨env', rfl⟩, by simp, by simpa using h1, by simp, by simp, fun p hp => hp⟩
theorem ec (hT : Tr P n q ih dd l env0 h0 nx nx1 S) : ∀ i, i ≤ l.length → (S i).ec = cntK 2 l i
  | 0, _ => by rw [hT.s0, cntK_zero]
  | i + 1, hi => by
    have ho := List.getElem?_eq_getElem (l := l) (i := i) (by omega)
    rw [(hT.sum ho).2.1, cntK_succ 2 ho, hT.ec i (by omega)]
theorem res (hT : Tr P n q ih dd l env0 h0 nx nx1 S) : ∀ i, i ≤ l.length → (S i).res.val = nx.val + cntK 3 l i
  | 0, _ => by rw [hT.s0, cntK_zero]; rfl
  | i + 1, hi => by
    have ho := List.getElem?_eq_getElem (l := l) (i := i) (by omega)
    rw [(hT.sum ho).2.2.1, cntK_succ 3 ho, hT.res i (by omega)]; omega
theorem recsM (hT : Tr P n q ih dd l env0 h0 nx nx1 S) {p : Rec} : ∀ k i, i + k ≤ l.length → p ∈ (S i).recs → p ∈ (S (i + k)).recs
  | 0, i, _, h => h
  | k + 1, i, hk, h => by
    have := hT.recsM k i (by omega) h
    exact (hT.sum (List.getElem?_eq_getElem (l := l) (i := i + k) (by omega))).2.2.2.2.2 p this
theorem slot (hT : Tr P n q ih dd l env0 h0 nx nx1 S) {t : Nat} (h2 : t < 256) {i : Nat} : ∀ k, i + k ≤ l.length → (∀ j o, i ≤ j → j < i + k → l[j]? = some o → o.dst ≠ some t) → get4 (slotK t) (S (i + k)).env = get4 (slotK t) (S i).env
  | 0, _, _ => rfl
  | k + 1, hk, hw => by
    have ho := List.getElem?_eq_getElem (l := l) (i := i + k) (by omega)
    obtain ⟨⟨env', h3⟩, _⟩ := hT.sum ho
    rw [show i + (k + 1) = i + k + 1 by omega, h3, mrg_ne (hw (i + k) _ (by omega) (by omega) ho) h2]
    exact hT.slot h2 k (by omega) (fun j o a b => hw j o a (by omega))
theorem pastS (hT : Tr P n q ih dd l env0 h0 nx nx1 S) {i : Nat} : ∀ k, i + k ≤ l.length → (∀ j o, i ≤ j → j < i + k → l[j]? = some o → kind0 o.op ≠ 2) → (S (i + k)).past = (S i).past
  | 0, _, _ => rfl
  | k + 1, hk, hw => by
    have ho := List.getElem?_eq_getElem (l := l) (i := i + k) (by omega)
    rw [show i + (k + 1) = i + k + 1 by omega, (hT.sum ho).2.2.2.1 (hw (i + k) _ (by omega) (by omega) ho)]
    exact hT.pastS k (by omega) (fun j o a b => hw j o a (by omega))
theorem newH (hT : Tr P n q ih dd l env0 h0 nx nx1 S) (h : l[i]? = some o) (hk : kind0 o.op = 3) : (S (i + 1)).h = (S i).h ∨ ∃ X, (S (i + 1)).h = set8 (S i).res (some X) (S i).h := by
  obtain ⟨_, env', h', nx', ds, res', h1, _, h2⟩ := hT.sn h hk
  rw [h2]
  rcases guard_syn h1 with h3 | h3
  · obtain ⟨d, op, ty, pos, af, g⟩ := o
    obtain ⟨v, X, _, h4, _⟩ := newOp (g := g) (af := af) (pos := pos) (ty := ty) (kind_new hk) h3
    exact .inr ⟨X, h4⟩
  · injection h3 with _ _ h3; exact .inl h3.symm
theorem cover (hT : Tr P n q ih dd l env0 h0 nx nx1 S) {c : Nat} : ∀ k, c + k ≤ l.length → (∀ j o, c ≤ j → j < c + k → l[j]? = some o → kind0 o.op ≠ 2) → ∀ m x, get8 m (S (c + k)).h = some x →
    get8 m (S c).h = some x ∨ ∃ a op, l[a]? = some op ∧ kind0 op.op = 3 ∧ c ≤ a ∧ a < c + k ∧ (S a).res = m ∧ get8 m (S (a + 1)).h = some x
  | 0, _, _, m, x, h => .inl h
  | k + 1, hk, hw, m, x, h => by
    have ho := List.getElem?_eq_getElem (l := l) (i := c + k) (by omega)
    have hne := hw (c + k) _ (by omega) (by omega) ho
    have prev : get8 m (S (c + k)).h = some x → get8 m (S c).h = some x ∨ ∃ a op, l[a]? = some op ∧ kind0 op.op = 3 ∧ c ≤ a ∧ a < c + (k + 1) ∧ (S a).res = m ∧ get8 m (S (a + 1)).h = some x := fun h => by
      rcases hT.cover k (by omega) (fun j o a b => hw j o a (by omega)) m x h with h | ⟨a, op, g1, g2, g3, g4, g5⟩
      · exact .inl h
      · exact .inr ⟨a, op, g1, g2, g3, by omega, g5⟩
    by_cases h3 : kind0 (l[c + k]'(by omega)).op = 3
    · rcases hT.newH ho h3 with e | ⟨X, e⟩
      · rw [show c + (k + 1) = c + k + 1 by omega, e] at h; exact prev h
      · by_cases em : m = (S (c + k)).res
        · exact .inr ⟨c + k, _, ho, h3, by omega, by omega, em.symm, h⟩
        · rw [show c + (k + 1) = c + k + 1 by omega, e, get8_ne em] at h; exact prev h
    · rw [show c + (k + 1) = c + k + 1 by omega, (hT.sum ho).2.2.2.2.1 hne h3] at h; exact prev h
theorem res_inj (hT : Tr P n q ih dd l env0 h0 nx nx1 S) {a b : Nat} {oa ob : Oper} (ha : l[a]? = some oa) (hb : l[b]? = some ob) (ka : kind0 oa.op = 3) (kb : kind0 ob.op = 3) (h : (S a).res = (S b).res) : a = b := by
  have la := (List.getElem?_eq_some_iff.1 ha).1
  have lb := (List.getElem?_eq_some_iff.1 hb).1
  have h' := congrArg Nm.val h
  rw [hT.res a (by omega), hT.res b (by omega)] at h'
  have sa := cntK_succ 3 ha
  have sb := cntK_succ 3 hb
  rw [if_pos ka] at sa; rw [if_pos kb] at sb
  rcases Nat.lt_trichotomy a b with hlt | e | hlt
  · have := cntK_mono 3 l (show a + 1 ≤ b from hlt); omega
  · exact e
  · have := cntK_mono 3 l (show b + 1 ≤ a from hlt); omega
theorem res_lt (hT : Tr P n q ih dd l env0 h0 nx nx1 S) {a : Nat} {oa : Oper} (ha : l[a]? = some oa) (ka : kind0 oa.op = 3) : nx.val ≤ (S a).res.val ∧ (S a).res.val < nx.val + (news l).length := by
  have la := (List.getElem?_eq_some_iff.1 ha).1
  rw [hT.res a (by omega)]
  have sa := cntK_succ 3 ha
  rw [if_pos ka] at sa
  have : cntK 3 l (a + 1) ≤ (news l).length := List.countP_le_length
  omega
theorem again_ok (hT : Tr P n q ih dd l env0 h0 nx nx1 S) (h : l[i]? = some o) (hk : kind0 o.op = 1) {c : Nat} (hc : c ≤ l.length) {hh : Hp} {nxc : Nm} {pt : List (Hp × Nm)} (hp : (S c).past = (hh, nxc) :: pt)
    (h1 : (S i).ec ≤ (S c).ec + backN l (clOf l []) i) (h2 : (S c).ec ≤ (S i).ec + fwdN l (clOf l []) i) : ∃ env' env'' h' nx' ds, opF P n q l o ih endK (S i).env hh nxc dd = .C .n env' h' nx' ds ∧ (S (i + 1)).env = mrg (dstP n o.dst) env'' (S i).env ∧ (env' = env'' ∨ ∃ p, dstP n o.dst = some p ∧ get4 p env' = get4 p env'') := by
  have hi := (List.getElem?_eq_some_iff.1 h).1
  obtain ⟨hp2, nx2, pt2, env', hh2, nx2', ds2, g1, g2, g3⟩ := hT.sr h hk
  have hl0 : (S 0).past.length = (S 0).ec + 1 := by rw [hT.s0]; rfl
  have hZl : (zip3 (kinds l (clOf l [])) l (trOps P n q l l) n).length = l.length := zip3_len (kinds_len _ _) (trOps_len _)
  have pc := past_at hT.st hl0 (i := c) (by rw [hZl]; exact hc) hp
  have pi := past_at hT.st hl0 (i := i) (by rw [hZl]; omega) g1
  rw [hZl] at pc pi
  cases hz : Nat.beq (Nat.add (backN l (clOf l []) i) (fwdN l (clOf l []) i)) 0 with
  | true =>
    have hz' : backN l (clOf l []) i + fwdN l (clOf l []) i = 0 := Nat.eq_of_beq_eq_true hz
    rw [show (S c).ec = (S i).ec by omega, pi] at pc
    injection pc with pc; injection pc with e1 e2; subst e1 e2
    exact ⟨env', env', _, _, _, g2, by rw [g3], .inl rfl⟩
  | false =>
    rw [hz] at g3
    have hm : (⟨opF P n q l o, (S i).env, getD (dstP n o.dst) env', dstP n o.dst, (S i).ec, backN l (clOf l []) i, fwdN l (clOf l []) i⟩ : Rec) ∈ (S (i + 1)).recs := by
      rw [g3]; exact List.mem_cons_self
    have hm2 := hT.recsM (l.length - (i + 1)) (i + 1) (by omega) hm
    rw [show i + 1 + (l.length - (i + 1)) = l.length by omega] at hm2
    obtain ⟨b1, b2⟩ := recsB_ok hT.rcs _ hm2
    simp only at b1 b2
    obtain ⟨a, b3, b4⟩ := b2 (S c).ec (by omega) (by omega)
    rw [pc] at b3
    injection b3 with b3; subst b3
    unfold again at b4
    split at b4
    · rename_i env'' h'' nx'' ds'' b5
      obtain ⟨b6, b7⟩ := beqO_eq b4
      refine ⟨env'', env', _, _, _, b5, by rw [g3], .inr ?_⟩
      simp only at b6 b7
      cases hd : dstP n o.dst with
      | none => rw [hd] at b7; exact absurd rfl b7
      | some p => rw [hd] at b6; exact ⟨p, rfl, b6⟩
    · cases b4
end Tr
end
end Go.Proofs.YtpcdcemcjbeajaaGreatDoor
set_option linter.unusedVariables false
set_option linter.unusedSimpArgs false
namespace Go.Proofs.YtpcdcemcjbeajaaGreatDoor
open Go.RowKit
def hD (l : List Oper) (S : Nat → DS) (c : Nat) (D : Nat → Bool) (m : Nm) (x : O) : Prop := get8 m (S c).h = some x ∨ ∃ a op, l[a]? = some op ∧ kind0 op.op = 3 ∧ c ≤ a ∧ D a = true ∧ (S a).res = m ∧ get8 m (S (a + 1)).h = some x
structure SPx (n : Nat) (l : List Oper) (σ0 : Sg) (nx R : Nm) (S : Nat → DS) (D : Nat → Bool) (ρ : Env) (L : List Ent) (c : Nat) (σ : Sg) (nxc : Nm) : Prop where
  cle : c ≤ l.length
  cut : ∀ j o, l[j]? = some o → kind0 o.op = 2 → (D j = true ↔ j < c)
  cut0 : c = 0 ∨ ∃ k o, c = k + 1 ∧ l[k]? = some o ∧ kind0 o.op = 2
  past : ∃ pt, (S c).past = ((S c).h, nxc) :: pt
  slots : ∀ j o d, l[j]? = some o → o.dst = some d → D j = true → d < n → d < 256 → ∀ v, get4 (slotK d) (S (j + 1)).env = some v → okV σ v (ρ d)
  low : ∀ m : Nm, m.val < nx.val → σ m = σ0 m
  made : ∀ a o x, l[a]? = some o → kind0 o.op = 3 → σ (S a).res = some x → D a = true ∧ ∃ y, get8 (S a).res (S (a + 1)).h = some y
  dum : ∃ x, σ R = some x
  fresh : ∀ m : Nm, nxc.val ≤ m.val → σ m = none
  early : ∀ a o, l[a]? = some o → kind0 o.op = 3 → c ≤ a → get8 (S a).res (S c).h = none
  inj : ∀ m k x y b d d', hD l S c D m x → hD l S c D k y → σ m = some (b, d) → σ k = some (b, d') → m = k
  own : ∀ m x, hD l S c D m x → ∃ b d ob, σ m = some (b, d) ∧ (b, ob) ∈ L ∧ OR σ d x ob
  tk : σ.tk = σ0.tk
abbrev addD (i : Nat) (D : Nat → Bool) : Nat → Bool := fun k => k == i || D k
theorem addD_self (i : Nat) (D : Nat → Bool) : addD i D i = true := by simp [addD]
theorem addD_ne {i k : Nat} (D : Nat → Bool) (h : k ≠ i) : addD i D k = D k := by simp [addD, h]
section
variable {P : Program} {n : Nat} {q : Bool} {ih : Ih} {dd : List D} {l : List Oper} {env0 : En} {h0 : Hp} {nx nx1 R : Nm} {S : Nat → DS} {i : Nat} {o : Oper} {σ0 σ : Sg} {D : Nat → Bool} {ρ ρ0 : Env} {L : List Ent} {c : Nat} {nxc : Nm}
theorem slots_upd {σ' : Sg} {x : Value} (hT : Tr P n q ih dd l env0 h0 nx nx1 S) (ho : l[i]? = some o) (hs : Sg.sub σ σ') (h : ∀ j o d, l[j]? = some o → o.dst = some d → D j = true → d < n → d < 256 → ∀ v, get4 (slotK d) (S (j + 1)).env = some v → okV σ v (ρ d))
    (hx : ∀ d, o.dst = some d → d < n → d < 256 → ∀ v, get4 (slotK d) (S (i + 1)).env = some v → okV σ' v x) :
    ∀ j o' d, l[j]? = some o' → o'.dst = some d → addD i D j = true → d < n → d < 256 → ∀ v, get4 (slotK d) (S (j + 1)).env = some v → okV σ' v (updO ρ o.dst x d) := by
  intro j o' d hj hd hD h1 h2 v hv
  by_cases e : j = i
  · subst e
    rw [ho] at hj; injection hj with hj; subst hj
    rw [hd]; show okV σ' v (upd ρ d x d); rw [upd_same]
    exact hx d hd h1 h2 v hv
  · rw [addD_ne D e] at hD
    have : updO ρ o.dst x d = ρ d := by
      cases ho2 : o.dst with
      | none => rfl
      | some t => exact upd_ne _ _ (fun e2 => e (dstsB_inj hT.parts.1 j i o' o d hj ho hd (by rw [ho2, e2])))
    rw [this]
    exact okV_raw hs (h j o' d hj hd hD h1 h2 v hv)
theorem SPx.nd (hX : SPx n l σ0 nx R S D ρ L c σ nxc) (hf : ∀ m : Nm, nx.val ≤ m.val → σ0 m = none) : Sg.sub σ0 σ := ⟨fun m y h => by
  have : m.val < nx.val := by
    cases Nat.lt_or_ge m.val nx.val with
    | inl h => exact h
    | inr h2 => rw [hf m h2] at h; cases h
  rw [hX.low m this]; exact h, hX.tk⟩
theorem SPx.quiet {x : Value} (hX : SPx n l σ0 nx R S D ρ L c σ nxc) (hT : Tr P n q ih dd l env0 h0 nx nx1 S) (ho : l[i]? = some o) (hk : kind0 o.op ≠ 2) (h3 : kind0 o.op = 3 → get8 (S i).res (S (i + 1)).h = none)
    (hx : ∀ d, o.dst = some d → d < n → d < 256 → ∀ v, get4 (slotK d) (S (i + 1)).env = some v → okV σ v x) : SPx n l σ0 nx R S (addD i D) (updO ρ o.dst x) L c σ nxc := by
  have hb : ∀ m y, hD l S c (addD i D) m y → hD l S c D m y := by
    rintro m y (h | ⟨a, op, g1, g2, g3, g4, g5, g6⟩)
    · exact .inl h
    · by_cases e : a = i
      · subst e
        rw [ho] at g1; injection g1 with g1; subst g1
        rw [← g5, h3 g2] at g6; cases g6
      · exact .inr ⟨a, op, g1, g2, g3, by rwa [addD_ne D e] at g4, g5, g6⟩
  refine ⟨hX.cle, fun j o' hj hk' => ?_, hX.cut0, hX.past, slots_upd hT ho (Sg.sub.refl _) hX.slots hx, hX.low, fun a o' y ha hk' hs => ?_, hX.dum, hX.fresh, hX.early, fun m k x y b d d' h1 h2 => hX.inj m k x y b d d' (hb _ _ h1) (hb _ _ h2), fun m y h => hX.own m y (hb _ _ h), hX.tk⟩
  · have : j ≠ i := fun e => by subst e; rw [ho] at hj; injection hj with hj; subst hj; exact hk hk'
    rw [addD_ne D this]; exact hX.cut j o' hj hk'
  · obtain ⟨g1, g2⟩ := hX.made a o' y ha hk' hs
    exact ⟨by simp [addD, g1], g2⟩
theorem SPx.new {x : Value} {b cap : Nat} {X : O} {ob : Obj} (hX : SPx n l σ0 nx R S D ρ L c σ nxc) (hT : Tr P n q ih dd l env0 h0 nx nx1 S) (hR : R.val = nx.val + (news l).length) (ho : l[i]? = some o) (hk : kind0 o.op = 3) (hi : D i = false) (hX1 : get8 (S i).res (S (i + 1)).h = some X) (hb : ∀ p ∈ L, p.1 ≠ b) (hO : OR σ cap X ob)
    (hx : ∀ d, o.dst = some d → d < n → d < 256 → ∀ v, get4 (slotK d) (S (i + 1)).env = some v → okV (σ.ext (S i).res (b, cap)) v x) : SPx n l σ0 nx R S (addD i D) (updO ρ o.dst x) ((b, ob) :: L) c (σ.ext (S i).res (b, cap)) nxc := by
  have hr := hT.res_lt ho hk
  have hn : σ (S i).res = none := by
    cases e : σ (S i).res with
    | none => rfl
    | some y => have := (hX.made i o y ho hk e).1; rw [hi] at this; cases this
  have hraw := ext_raw hn (b, cap)
  have hdum : ∀ m : Nm, nxc.val ≤ m.val → m ≠ (S i).res := fun m hm e => by
    obtain ⟨y, hy⟩ := hX.dum
    have hRc : R.val < nxc.val := by
      cases Nat.lt_or_ge R.val nxc.val with
      | inl h => exact h
      | inr h => rw [hX.fresh R h] at hy; cases hy
    subst e; omega
  have key : ∀ m y, hD l S c (addD i D) m y → (m = (S i).res ∧ y = X) ∨ (m ≠ (S i).res ∧ hD l S c D m y) := by
    intro m y h
    by_cases e : m = (S i).res
    · left
      refine ⟨e, ?_⟩
      rcases h with h | ⟨a, op, g1, g2, g3, g4, g5, g6⟩
      · obtain ⟨b', d, ob', k1, _⟩ := hX.own m y (.inl h)
        rw [e, hn] at k1; cases k1
      · have : a = i := hT.res_inj g1 ho g2 hk (by rw [g5, e])
        subst this
        rw [e, hX1] at g6; injection g6 with g6; exact g6.symm
    · right
      refine ⟨e, ?_⟩
      rcases h with h | ⟨a, op, g1, g2, g3, g4, g5, g6⟩
      · exact .inl h
      · have : a ≠ i := fun e2 => by subst e2; exact e g5.symm
        exact .inr ⟨a, op, g1, g2, g3, by rwa [addD_ne D this] at g4, g5, g6⟩
  refine ⟨hX.cle, fun j o' hj hk' => ?_, hX.cut0, hX.past, slots_upd hT ho hraw hX.slots hx, fun m hm => ?_, fun a o' y ha hk' hs => ?_, ?_, fun m hm => ?_, hX.early, fun m k x y b' d d' h1 h2 s1 s2 => ?_, fun m y h => ?_, hX.tk⟩
  · have : j ≠ i := fun e => by subst e; rw [ho] at hj; injection hj with hj; subst hj; rw [hk] at hk'; cases hk'
    rw [addD_ne D this]; exact hX.cut j o' hj hk'
  · rw [Sg.ext_ne (fun e => by subst e; omega)]; exact hX.low m hm
  · by_cases e : (S a).res = (S i).res
    · have : a = i := hT.res_inj ha ho hk' hk e
      subst this
      exact ⟨addD_self a D, X, hX1⟩
    · rw [Sg.ext_ne e] at hs
      obtain ⟨g1, g2⟩ := hX.made a o' y ha hk' hs
      exact ⟨by simp [addD, g1], g2⟩
  · obtain ⟨y, hy⟩ := hX.dum; exact ⟨y, hraw _ _ hy⟩
  · rw [Sg.ext_ne (hdum m hm)]; exact hX.fresh m hm
  · rcases key _ _ h1 with ⟨e1, _⟩ | ⟨e1, h1⟩
    · rcases key _ _ h2 with ⟨e2, _⟩ | ⟨e2, h2⟩
      · rw [e1, e2]
      · obtain ⟨b1, c1, ob1, k1, k2, _⟩ := hX.own k y h2
        rw [e1, Sg.ext_same] at s1; rw [Sg.ext_ne e2, k1] at s2
        injection s1 with s1; injection s1 with a1 a2; injection s2 with s2; injection s2 with a3 a4
        exact absurd (by rw [a3, ← a1]) (hb _ k2)
    · rcases key _ _ h2 with ⟨e2, _⟩ | ⟨e2, h2⟩
      · obtain ⟨b1, c1, ob1, k1, k2, _⟩ := hX.own m x h1
        rw [e2, Sg.ext_same] at s2; rw [Sg.ext_ne e1, k1] at s1
        injection s1 with s1; injection s1 with a1 a2; injection s2 with s2; injection s2 with a3 a4
        exact absurd (by rw [a1, ← a3]) (hb _ k2)
      · rw [Sg.ext_ne e1] at s1; rw [Sg.ext_ne e2] at s2
        exact hX.inj m k x y b' d d' h1 h2 s1 s2
  · rcases key _ _ h with ⟨e1, rfl⟩ | ⟨e1, h⟩
    · exact ⟨b, cap, ob, by rw [e1]; exact Sg.ext_same _ _, List.mem_cons_self, hO.raw hraw⟩
    · obtain ⟨b1, c1, ob1, k1, k2, k3⟩ := hX.own m y h
      exact ⟨b1, c1, ob1, hraw _ _ k1, List.mem_cons_of_mem _ k2, k3.raw hraw⟩
def isEarly (l : List Oper) (S : Nat → DS) (D : Nat → Bool) (σ : Sg) (i : Nat) (p : Ent) : Prop := ∃ a op d, l[a]? = some op ∧ kind0 op.op = 3 ∧ i < a ∧ D a = true ∧ σ (S a).res = some (p.1, d)
open Classical in
noncomputable def earlyL (l : List Oper) (S : Nat → DS) (D : Nat → Bool) (σ : Sg) (i : Nat) (L : List Ent) : List Ent := L.filter fun p => !(!decide (isEarly l S D σ i p))
open Classical in
noncomputable def restL (l : List Oper) (S : Nat → DS) (D : Nat → Bool) (σ : Sg) (i : Nat) (L : List Ent) : List Ent := L.filter fun p => !decide (isEarly l S D σ i p)
theorem early_perm (i : Nat) (L : List Ent) : (restL l S D σ i L ++ earlyL l S D σ i L).Perm L := List.filter_append_perm _ L
theorem rest_mem {p : Ent} : p ∈ restL l S D σ i L ↔ p ∈ L ∧ ¬ isEarly l S D σ i p := by simp [restL]
theorem early_mem {p : Ent} : p ∈ earlyL l S D σ i L ↔ p ∈ L ∧ isEarly l S D σ i p := by simp [earlyL]
theorem SPx.hr (hX : SPx n l σ0 nx R S D ρ L c σ nxc) (hT : Tr P n q ih dd l env0 h0 nx nx1 S) (hi : i ≤ l.length) (hci : c ≤ i) (hne : ∀ j o, c ≤ j → j < i → l[j]? = some o → kind0 o.op ≠ 2) (hnew : ∀ a op, l[a]? = some op → kind0 op.op = 3 → c ≤ a → a < i → D a = true) : HR σ nxc (S i).h (restL l S D σ i L) := by
  have cov : ∀ m x, get8 m (S i).h = some x → get8 m (S c).h = some x ∨ ∃ a op, l[a]? = some op ∧ kind0 op.op = 3 ∧ c ≤ a ∧ a < i ∧ (S a).res = m ∧ get8 m (S (a + 1)).h = some x := by
    have := hT.cover (c := c) (i - c) (by omega) (by rw [show c + (i - c) = i by omega]; exact hne)
    rwa [show c + (i - c) = i by omega] at this
  have toD : ∀ m x, get8 m (S i).h = some x → hD l S c D m x := fun m x h => by
    rcases cov m x h with h | ⟨a, op, g1, g2, g3, g4, g5, g6⟩
    · exact .inl h
    · exact .inr ⟨a, op, g1, g2, g3, hnew a op g1 g2 g3 g4, g5, g6⟩
  refine ⟨hX.fresh, fun m k x y b d d' h1 h2 => hX.inj m k x y b d d' (toD _ _ h1) (toD _ _ h2), fun m x h => ?_⟩
  obtain ⟨b, d, ob, k1, k2, k3⟩ := hX.own m x (toD _ _ h)
  refine ⟨b, d, ob, k1, rest_mem.2 ⟨k2, ?_⟩, k3⟩
  rintro ⟨a, op, d', g1, g2, g3, g4, g5⟩
  obtain ⟨_, y, g6⟩ := hX.made a op _ g1 g2 g5
  have e := hX.inj m (S a).res x y b d d' (toD _ _ h) (.inr ⟨a, op, g1, g2, by omega, g4, rfl, g6⟩) k1 g5
  rcases cov m x h with h | ⟨a', op', f1, f2, f3, f4, f5, f6⟩
  · rw [e, hX.early a op g1 g2 (by omega)] at h; cases h
  · have := hT.res_inj f1 g1 f2 g2 (by rw [f5, e]); omega
theorem SPx.eff {x : Value} {σ' : Sg} {nx' : Nm} {L' : List Ent} (hX : SPx n l σ0 nx R S D ρ L c σ nxc) (hT : Tr P n q ih dd l env0 h0 nx nx1 S) (hR : R.val = nx.val + (news l).length) (ho : l[i]? = some o) (hk : kind0 o.op = 2) (hi : D i = false) (hci : c ≤ i) (hne : ∀ j o, c ≤ j → j < i → l[j]? = some o → kind0 o.op ≠ 2)
    (hle : Sg.le σ σ') (hH : HR σ' nx' (S (i + 1)).h L') (hp : ∃ pt, (S (i + 1)).past = ((S (i + 1)).h, nx') :: pt) (hnd : (keys (L' ++ earlyL l S D σ i L)).Nodup)
    (hx : ∀ d, o.dst = some d → d < n → d < 256 → ∀ v, get4 (slotK d) (S (i + 1)).env = some v → okV σ' v x) : SPx n l σ0 nx R S (addD i D) (updO ρ o.dst x) (L' ++ earlyL l S D σ i L) (i + 1) σ' nx' := by
  have hil := (List.getElem?_eq_some_iff.1 ho).1
  obtain ⟨yR, hyR⟩ := hX.dum
  have hup : ∀ m y, σ' m = some y → σ m = none → R.val < m.val := fun m y h1 h2 => hle.above m y h1 h2 R yR hyR
  have dis : ∀ p ∈ L', ∀ r ∈ earlyL l S D σ i L, p.1 ≠ r.1 := by
    unfold keys at hnd
    rw [List.map_append, List.nodup_append] at hnd
    intro p hp r hr e
    exact hnd.2.2 p.1 (List.mem_map.2 ⟨p, hp, rfl⟩) r.1 (List.mem_map.2 ⟨r, hr, rfl⟩) e
  have lo : ∀ a op, l[a]? = some op → kind0 op.op = 3 → ∀ y, σ' (S a).res = some y → σ (S a).res = some y := fun a op g1 g2 y h => by
    cases e : σ (S a).res with
    | none => have := hup _ _ h e; have := hT.res_lt g1 g2; omega
    | some z => rw [hle.keep _ _ e] at h; exact h
  have ear : ∀ a op x, l[a]? = some op → kind0 op.op = 3 → i < a → D a = true → get8 (S a).res (S (a + 1)).h = some x → ∃ b d ob, σ (S a).res = some (b, d) ∧ (b, ob) ∈ earlyL l S D σ i L ∧ OR σ d x ob := fun a op x g1 g2 g3 g4 g5 => by
    obtain ⟨b, d, ob, k1, k2, k3⟩ := hX.own _ x (.inr ⟨a, op, g1, g2, by omega, g4, rfl, g5⟩)
    exact ⟨b, d, ob, k1, early_mem.2 ⟨k2, a, op, d, g1, g2, g3, g4, k1⟩, k3⟩
  have key : ∀ m y, hD l S (i + 1) (addD i D) m y → (∃ b d ob, σ' m = some (b, d) ∧ (b, ob) ∈ L' ∧ OR σ' d y ob ∧ get8 m (S (i + 1)).h = some y) ∨ (∃ b d ob, σ m = some (b, d) ∧ (b, ob) ∈ earlyL l S D σ i L ∧ OR σ d y ob ∧ hD l S c D m y) := by
    rintro m y (h | ⟨a, op, g1, g2, g3, g4, g5, g6⟩)
    · obtain ⟨b, d, ob, k1, k2, k3⟩ := hH.own m y h
      exact .inl ⟨b, d, ob, k1, k2, k3, h⟩
    · have hai : a ≠ i := by omega
      rw [addD_ne D hai] at g4
      subst g5
      obtain ⟨b, d, ob, k1, k2, k3⟩ := ear a op y g1 g2 (by omega) g4 g6
      exact .inr ⟨b, d, ob, k1, k2, k3, .inr ⟨a, op, g1, g2, by omega, g4, rfl, g6⟩⟩
  refine ⟨by omega, fun j o' hj hk' => ?_, .inr ⟨i, o, rfl, ho, hk⟩, hp, slots_upd hT ho hle.keep hX.slots hx, fun m hm => ?_, fun a o' y ha hk' hs => ?_, ⟨yR, hle.keep _ _ hyR⟩, hH.fresh, fun a o' ha hk' hia => ?_, fun m k x y b d d' h1 h2 s1 s2 => ?_, fun m y h => ?_, hle.keep.tk.trans hX.tk⟩
  · by_cases e : j = i
    · subst e; simp [addD]
    · rw [addD_ne D e, hX.cut j o' hj hk']
      refine ⟨fun h => by omega, fun h => ?_⟩
      cases Nat.lt_or_ge j c with
      | inl h => exact h
      | inr h2 => exact absurd hk' (hne j o' h2 (by omega) hj)
  · cases e : σ m with
    | some y => rw [← hX.low m hm, e]; exact hle.keep _ _ e
    | none =>
      rw [← hX.low m hm, e]
      cases e2 : σ' m with
      | none => rfl
      | some z => have := hup _ _ e2 e; omega
  · obtain ⟨g1, g2⟩ := hX.made a o' y ha hk' (lo a o' ha hk' y hs)
    exact ⟨by simp [addD, g1], g2⟩
  · cases e : get8 (S a).res (S (i + 1)).h with
    | none => rfl
    | some y =>
      exfalso
      obtain ⟨b, d, ob, k1, k2, _⟩ := hH.own _ y e
      have k3 := lo a o' ha hk' _ k1
      obtain ⟨k4, z, k5⟩ := hX.made a o' _ ha hk' k3
      obtain ⟨b', d', ob', k6, k7, _⟩ := ear a o' z ha hk' (by omega) k4 k5
      rw [k3] at k6; injection k6 with k6; injection k6 with e1 e2; subst e1
      exact dis _ k2 _ k7 rfl
  · rcases key _ _ h1 with ⟨b1, d1, ob1, a1, a2, a3, a4⟩ | ⟨b1, d1, ob1, a1, a2, a3, a4⟩
    · rcases key _ _ h2 with ⟨b2, d2, ob2, c1, c2, c3, c4⟩ | ⟨b2, d2, ob2, c1, c2, c3, c4⟩
      · exact hH.inj m k x y b d d' a4 c4 s1 s2
      · exfalso
        rw [a1] at s1; injection s1 with s1; injection s1 with e1 e2
        rw [hle.keep _ _ c1] at s2; injection s2 with s2; injection s2 with e3 e4
        exact dis _ a2 _ c2 (by simp only; rw [e1, e3])
    · rcases key _ _ h2 with ⟨b2, d2, ob2, c1, c2, c3, c4⟩ | ⟨b2, d2, ob2, c1, c2, c3, c4⟩
      · exfalso
        rw [c1] at s2; injection s2 with s2; injection s2 with e1 e2
        rw [hle.keep _ _ a1] at s1; injection s1 with s1; injection s1 with e3 e4
        exact dis _ c2 _ a2 (by simp only; rw [e1, e3])
      · rw [hle.keep _ _ a1] at s1; rw [hle.keep _ _ c1] at s2
        injection s1 with s1; injection s2 with s2
        exact hX.inj m k x y b d d' a4 c4 (by rw [a1, s1]) (by rw [c1, s2])
  · rcases key _ _ h with ⟨b1, d1, ob1, a1, a2, a3, _⟩ | ⟨b1, d1, ob1, a1, a2, a3, _⟩
    · exact ⟨b1, d1, ob1, a1, List.mem_append_left _ a2, a3⟩
    · exact ⟨b1, d1, ob1, hle.keep _ _ a1, List.mem_append_right _ a2, a3.mono hle⟩
end
end Go.Proofs.YtpcdcemcjbeajaaGreatDoor
set_option linter.unusedVariables false
set_option linter.unusedSimpArgs false
namespace Go.Proofs.YtpcdcemcjbeajaaGreatDoor
open Go.RowKit
def SPd (n : Nat) (l : List Oper) (σ0 : Sg) (nx R : Nm) (S : Nat → DS) (D : Nat → Bool) (ρ : Env) (L : List Ent) : Prop := ∃ c σ nxc, SPx n l σ0 nx R S D ρ L c σ nxc
def guardOps (l : List Oper) (o : Oper) : List Operand := match o.guard with | some (j, _) => (match (l[j]?).bind (·.dst) with | some d => [Operand.tmp d] | none => []) | none => []
theorem slotsB_ok {l : List Oper} {cl : List (List Nat)} (h : slotsB l cl = true) {i j : Nat} {o o' : Oper} {t : Nat} (ho : l[i]? = some o) (ht : Operand.tmp t ∈ o.op.operands.toList ++ guardOps l o) (hj : l[j]? = some o') (hd : o'.dst = some t) : j ∈ cl.getD i [] ∨ i ∈ bindsOn o' := by
  unfold slotsB at h
  have h1 := List.all_eq_true.1 h (o, i) (List.mk_mem_zipIdx_iff_getElem?.2 ho)
  have h2 := List.all_eq_true.1 h1 (.tmp t) ht
  have h3 := List.all_eq_true.1 h2 (o', j) (List.mk_mem_zipIdx_iff_getElem?.2 hj)
  simp only [Bool.or_eq_true, hd] at h3
  rcases h3 with (h3 | h3) | h3
  · simp at h3
  · exact .inl (by simpa using h3)
  · exact .inr (by simpa using h3)
section
variable {P : Program} {n : Nat} {q : Bool} {ih : Ih} {dd : List D} {l : List Oper} {env0 : En} {h0 : Hp} {nx nx1 R : Nm} {S : Nat → DS} {i : Nat} {o : Oper} {σ0 σ : Sg} {D : Nat → Bool} {ρ ρ0 : Env} {L : List Ent} {c : Nat} {nxc : Nm} {SP : (Nat → Bool) → Env → List Ent → Prop}
theorem reads_ok (hT : Tr P n q ih dd l env0 h0 nx nx1 S) (hE : ER σ0 n env0 ρ0) (hf : ∀ m : Nm, nx.val ≤ m.val → σ0 m = none) (hg : Stg l [] (clOf l []) SP ρ0 i o ρ L D) (hX : SPx n l σ0 nx R S D ρ L c σ nxc) (ho : l[i]? = some o)
    {t : Nat} (ht : Operand.tmp t ∈ o.op.operands.toList ++ guardOps l o) (h1 : t < n) (h2 : t < 256) {v : V} (hv : get4 (slotK t) (S i).env = some v) : okV σ v (ρ t) := by
  obtain ⟨p1, p2, p3, p4, p5, p6, p7⟩ := hT.parts
  have hi := (List.getElem?_eq_some_iff.1 ho).1
  have old : (∀ j o, j < i → l[j]? = some o → o.dst ≠ some t) → ρ t = ρ0 t → okV σ v (ρ t) := fun hw e => by
    have := hT.slot h2 (i := 0) i (by omega) (fun j o _ hj => hw j o (by omega))
    rw [Nat.zero_add] at this
    rw [this, hT.s0] at hv
    rw [e]
    exact okV_raw (hX.nd hf) (hE t v h1 h2 hv)
  by_cases hw : ∃ (j : Nat) (o' : Oper), l[j]? = some o' ∧ o'.dst = some t
  · obtain ⟨j, o', hj, hd⟩ := hw
    have uniq : ∀ k o2, l[k]? = some o2 → o2.dst = some t → k = j := fun k o2 hk hd2 => dstsB_inj p1 k j o2 o' t hk hj hd2 hd
    rcases slotsB_ok p6 ho ht hj hd with hcl | hb
    · have hji := cl_lt p3 p2 i hi j hcl
      have hDj := hg.low j hcl
      have := hT.slot h2 (i := j + 1) (i - (j + 1)) (by omega) (fun k o2 hk1 hk2 hk3 hd2 => by have := uniq k o2 hk3 hd2; omega)
      rw [show j + 1 + (i - (j + 1)) = i by omega] at this
      exact hX.slots j o' t hj hd hDj h1 h2 v (by rw [← this]; exact hv)
    · obtain ⟨e, he, hbd, hon⟩ := bindsOn_mem hb
      have hlt := backC_get p2 j o' hj e he hbd
      refine old (fun k o2 hk1 hk3 hd2 => ?_) (hg.old j o' t hj hd ⟨e, he, hbd, hon⟩)
      have := uniq k o2 hk3 hd2; omega
  · exact old (fun j o' _ hj hd => hw ⟨j, o', hj, hd⟩) (hg.fix t (fun o' hm hd => by obtain ⟨j, hj⟩ := List.mem_iff_getElem?.1 hm; exact hw ⟨j, o', hj, hd⟩))
theorem opsOk_slots {env : En} {ol : Array Operand} (h : ∀ t, Operand.tmp t ∈ ol → t < n → t < 256 → ∀ v, get4 (slotK t) env = some v → okV σ v (ρ t)) : OpsOk σ n env (evE n ρ) ol := by
  intro x hx v hv
  cases x with
  | tmp t =>
    have hv' : getA env (cond (slotB t n) (.s (slotK t)) .bad) = some v := hv
    cases hb : slotB t n with
    | false => rw [hb] at hv'; cases hv'
    | true =>
      rw [hb] at hv'
      have ht := slotB_ok hb
      show okV σ v (cond (Nat.blt t n) (ρ t) undef)
      rw [blt_true ht.1]
      exact h t hx ht.1 ht.2 v hv'
  | const c =>
    have hv' : getA env (match constV c with | some x => .k x | none => .bad) = some v := hv
    cases hc : constV c with
    | none => rw [hc] at hv'; cases hv'
    | some x => rw [hc] at hv'; injection hv' with hv'; subst hv'; exact constV_ok σ hc
  | func f => injection hv with hv; subst hv; exact okV_func σ f
  | global g => cases hv
theorem notDefer_of {o : Op} (h : noDefer o = true) : notDefer o = true := by cases o <;> first | rfl | exact h
theorem quiet_rl {c : Cx} {K : Ko} {Qp : Po} {ds : Ds} {env env' : En} {hh h' : Hp} {nxx nx' : Nm} {ds' : List Go.Proofs.YtpcdcemcjbeajaaGreatDoor.D} (hP : c.P = P) (hq : c.q = false) (hH : HR σ nxx hh L) (hE : OpsOk σ c.n env (evE c.n ρ) o.op.operands) (hG : GdOk σ c.n env ρ l o) (hqt : quietO o.op = true) (hd : noDefer o.op = true)
    (hr : opF P c.n q l o ih endK env hh nxx dd = .C .n env' h' nx' ds') (hK : ∀ v x, okV σ v x → env' = put (dstP c.n o.dst) v env → K (updO ρ o.dst x) ds L) : RL c l [o] K Qp ρ ds L := by
  rcases guard_split hG hr (fun n => by simp) with ⟨hw, h1⟩ | ⟨hw, h1⟩
  · obtain ⟨d, op, ty, pos, af, g⟩ := o
    have hD := opDoes (P := P) (w0 := c.w0) (B := c.S) (ty := ty) (pos := pos) (af := af) (g := g) (d := d) ⟨fun fv as ts e => (by have hqt' : quietO op = true := hqt; rw [show op = _ from e] at hqt'; cases hqt'), fun cl e => (by have hd' : noDefer op = true := hd; rw [show op = _ from e] at hd'; cases hd')⟩ hH hE h1 (fun n => by simp)
    subst hP
    refine RL.step hq hw (notDefer_of hd) fun w hst => ?_
    obtain ⟨σ', v, x, h'', nx'', w', L', _, g2, _, g4, g5, g6, g7⟩ := hD w hst
    obtain ⟨rfl, rfl, rfl⟩ := g7 hqt
    injection (show Rs.C .n (put (dstP c.n d) v env) h'' nx'' dd = _ from g4) with _ e1
    exact ⟨x, w', L', g5, g6, RL.nil (hK v x g2 e1.symm)⟩
  · injection (show Rs.C .n (put (dstP c.n o.dst) (.t []) env) hh nxx dd = _ from h1) with _ e1
    exact RL.skip hw (RL.nil (hK (.t []) undef ⟨[], trivial, rfl⟩ e1.symm))
theorem hr_noHp (hX : SPx n l σ0 nx R S D ρ L c σ nxc) : HR σ topN noHp L := by
  refine ⟨fun m hm => hX.fresh m ?_, fun m k x y b d d' h1 => ?_, fun m x h1 => ?_⟩
  · have : nxc.val ≤ topN.val := by
      rw [Nm.val_eq]
      have := nxc.lo.val_lt; have := nxc.hi.val_lt
      have e : topN.val = 65535 := rfl
      omega
    omega
  · rw [show get8 m noHp = none from get8_emp m none] at h1; cases h1
  · rw [show get8 m noHp = none from get8_emp m none] at h1; cases h1
theorem cut_lo (hT : Tr P n q ih dd l env0 h0 nx nx1 S) (hg : Stg l [] (clOf l []) SP ρ0 i o ρ L D) (hX : SPx n l σ0 nx R S D ρ L c σ nxc) (ho : l[i]? = some o) : (S i).ec ≤ (S c).ec + backN l (clOf l []) i := by
  have hi := (List.getElem?_eq_some_iff.1 ho).1
  rw [hT.ec i (by omega), hT.ec c hX.cle]
  unfold cntK backN
  rw [effs_eq, ← List.countP_eq_length_filter]
  refine countP_split (fun e he h => ?_)
  rw [Nat.blt_eq] at h
  obtain ⟨oe, h1, h2⟩ := sel_mem.1 he
  by_cases hc : e < c
  · exact .inl (blt_true hc)
  · refine .inr ?_
    rw [Bool.and_eq_true]
    refine ⟨blt_true h, ?_⟩
    cases hcl : ((clOf l []).getD i []).contains e with
    | false => rfl
    | true => exact absurd ((hX.cut e oe h1 h2).1 (hg.low e (by simpa using hcl))) hc
theorem cut_hi (hT : Tr P n q ih dd l env0 h0 nx nx1 S) (hg : Stg l [] (clOf l []) SP ρ0 i o ρ L D) (hX : SPx n l σ0 nx R S D ρ L c σ nxc) (ho : l[i]? = some o) (hk : kind0 o.op ≠ 2) : (S c).ec ≤ (S i).ec + fwdN l (clOf l []) i := by
  have hi := (List.getElem?_eq_some_iff.1 ho).1
  rw [hT.ec i (by omega), hT.ec c hX.cle]
  unfold cntK fwdN
  rw [effs_eq, ← List.countP_eq_length_filter]
  refine countP_split (fun e he h => ?_)
  rw [Nat.blt_eq] at h
  obtain ⟨oe, h1, h2⟩ := sel_mem.1 he
  have hDe := (hX.cut e oe h1 h2).2 h
  by_cases hc : e < i
  · exact .inl (blt_true hc)
  · refine .inr ?_
    have hne : e ≠ i := fun e2 => by subst e2; rw [ho] at h1; injection h1 with h1; subst h1; exact hk h2
    rw [Bool.and_eq_true]
    refine ⟨blt_true (by omega), ?_⟩
    cases hcl : ((clOf l []).getD e []).contains i with
    | false => rfl
    | true => have := hg.up e (List.getElem?_eq_some_iff.1 h1).1 (by simpa using hcl); rw [hDe] at this; cases this
theorem cut_act (hT : Tr P n q ih dd l env0 h0 nx nx1 S) (hg : Stg l [] (clOf l []) SP ρ0 i o ρ L D) (hX : SPx n l σ0 nx R S D ρ L c σ nxc) (ho : l[i]? = some o) (hk : kind0 o.op = 2) : c ≤ i ∧ (∀ j o, c ≤ j → j < i → l[j]? = some o → kind0 o.op ≠ 2) ∧ (∀ a op, l[a]? = some op → kind0 op.op = 3 → c ≤ a → a < i → D a = true) := by
  obtain ⟨p1, p2, p3, p4, p5, p6, p7⟩ := hT.parts
  refine ⟨?_, fun j oj h1 h2 h3 h4 => ?_, fun a oa h1 h2 h3 h4 => ?_⟩
  · cases Nat.lt_or_ge i c with
    | inr h => exact h
    | inl h => have := (hX.cut i o ho hk).2 h; rw [hg.self] at this; cases this
  · obtain ⟨a, g1, g2, g3, g4⟩ := chain_prev (selI_sorted l 0) p4 i (sel_mem.2 ⟨o, ho, hk⟩) j (sel_mem.2 ⟨oj, h3, h4⟩) h2
    obtain ⟨oa, g5, g6⟩ := sel_mem.1 g1
    have := (hX.cut a oa g5 g6).1 (hg.low a g4)
    omega
  · have g1 := List.all_eq_true.1 p5 i (sel_mem.2 ⟨o, ho, hk⟩)
    have g2 := List.all_eq_true.1 g1 a (sel_mem.2 ⟨oa, h1, h2⟩)
    rw [blt_true h4] at g2
    exact hg.low a (by simpa using g2)
theorem cut_new (hT : Tr P n q ih dd l env0 h0 nx nx1 S) (hg : Stg l [] (clOf l []) SP ρ0 i o ρ L D) (hX : SPx n l σ0 nx R S D ρ L c σ nxc) (ho : l[i]? = some o) (hk : kind0 o.op = 3) : c ≤ i := by
  obtain ⟨p1, p2, p3, p4, p5, p6, p7⟩ := hT.parts
  cases Nat.lt_or_ge i c with
  | inr h => exact h
  | inl h =>
    rcases hX.cut0 with e | ⟨k, ok, e, h1, h2⟩
    · omega
    · have hik : i ≠ k := fun e2 => by subst e2; rw [ho] at h1; injection h1 with h1; subst h1; rw [hk] at h2; cases h2
      have g1 := List.all_eq_true.1 p5 k (sel_mem.2 ⟨ok, h1, h2⟩)
      have g2 := List.all_eq_true.1 g1 i (sel_mem.2 ⟨o, ho, hk⟩)
      rw [blt_true (show i < k by omega)] at g2
      have g3 := hg.up k (List.getElem?_eq_some_iff.1 h1).1 (by simpa using g2)
      rw [(hX.cut k ok h1 h2).2 (by omega)] at g3; cases g3
theorem stg_ok {c : Cx} {ds : Ds} {Qp : Po} (hO : OpSnd P ih) (hP : c.P = P) (hn : c.n = n) (hq : c.q = false) (hrd : RdOk c q) (hT : Tr P n q ih dd l env0 h0 nx nx1 S) (hR : R.val = nx.val + (news l).length) (hE : ER σ0 n env0 ρ0) (hf : ∀ m : Nm, nx.val ≤ m.val → σ0 m = none) (hds : All2 (DR σ0) dd ds) (ho : l[i]? = some o) :
    StgOk c l [] (clOf l []) (SPd n l σ0 nx R S) ρ0 ds Qp i o := by
  intro ρ L D hg
  obtain ⟨cc, σ, nxc, hX⟩ := hg.sp
  obtain ⟨p1, p2, p3, p4, p5, p6, p7⟩ := hT.parts
  subst hn
  have hil := (List.getElem?_eq_some_iff.1 ho).1
  have hnd : noDefer o.op = true := List.all_eq_true.1 p7 o (List.mem_of_getElem? ho)
  have hOps : OpsOk σ c.n (S i).env (evE c.n ρ) o.op.operands := opsOk_slots fun t ht h1 h2 v hv => reads_ok hT hE hf hg hX ho (List.mem_append_left _ (by simpa using ht)) h1 h2 hv
  have hG : GdOk σ c.n (S i).env ρ l o := fun j w d hgd hj h1 h2 v hv => reads_ok hT hE hf hg hX ho (List.mem_append_right _ (by unfold guardOps; rw [hgd]; simp only [hj]; exact List.mem_cons_self)) h1 h2 hv
  obtain ⟨pt, hpast⟩ := hX.past
  have fin : ∀ {σ' : Sg} {x : Value} {L' : List Ent} {c' : Nat} {nx' : Nm}, SPx c.n l σ0 nx R S (addD i D) (updO ρ o.dst x) L' c' σ' nx' → (ds = ds ∧ (∃ v, updO ρ o.dst x = updO ρ o.dst v ∧ (factAt [] i).holds v []) ∧ SPd c.n l σ0 nx R S (fun k => k == i || D k) (updO ρ o.dst x) L') :=
    fun {σ' x L' c' nx'} h => ⟨rfl, ⟨x, rfl, by simp [factAt, Fact.holds]⟩, c', σ', nx', h⟩
  rcases kind_cases o.op with hk | hk | hk | hk
  · obtain ⟨env', hh, nx', ds', g1, g2⟩ := hT.sp ho hk
    refine quiet_rl hP hq (hr_noHp hX) hOps hG (kind_quiet (.inl hk)) hnd g1 fun v x hv e => fin (σ' := σ) (c' := cc) (nx' := nxc) (hX.quiet hT ho (by rw [hk]; simp) (fun h => by rw [hk] at h; cases h) (fun d hd h1 h2 v' hv' => ?_))
    rw [g2] at hv'
    simp only [hd] at hv'
    rw [mrg_same h1 h2, e, hd, put_same h1 h2] at hv'
    injection hv' with hv'; subst hv'; exact hv
  · obtain ⟨env', env'', h', nx', ds', g1, g2, g3⟩ := hT.again_ok ho hk hX.cle hpast (cut_lo hT hg hX ho) (cut_hi hT hg hX ho (by rw [hk]; simp))
    have hH : HR σ nxc (S cc).h L := ⟨hX.fresh, fun m k x y b d d' a1 a2 => hX.inj m k x y b d d' (.inl a1) (.inl a2), fun m x a => hX.own m x (.inl a)⟩
    refine quiet_rl hP hq hH hOps hG (kind_quiet (.inr hk)) hnd g1 fun v x hv e => fin (σ' := σ) (c' := cc) (nx' := nxc) (hX.quiet hT ho (by rw [hk]; simp) (fun h => by rw [hk] at h; cases h) (fun d hd h1 h2 v' hv' => ?_))
    rw [g2, hd, mrg_same h1 h2] at hv'
    have g4 : get4 (slotK d) env' = get4 (slotK d) env'' := by
      rcases g3 with rfl | ⟨p, g3, g4⟩
      · rfl
      · rw [hd, dstP_some h1 h2] at g3; injection g3 with g3; subst g3; exact g4
    rw [← g4, e, hd, put_same h1 h2] at hv'
    injection hv' with hv'; subst hv'; exact hv
  · obtain ⟨hci, hne, hnew⟩ := cut_act hT hg hX ho hk
    obtain ⟨hp, nx2, pt2, env', h', nx', ds', g0, g1, g2⟩ := hT.se ho hk
    have hps : (S i).past = (S cc).past := by
      have := hT.pastS (i := cc) (i - cc) (by omega) (by rw [show cc + (i - cc) = i by omega]; exact hne)
      rwa [show cc + (i - cc) = i by omega] at this
    rw [hps, hpast] at g0
    injection g0 with g0; injection g0 with e1 e2; subst e2
    have hH := hX.hr hT (by omega) hci hne hnew
    have e3 : (S (i + 1)).h = h' := by rw [g2]
    have e4 : ∃ pt, (S (i + 1)).past = ((S (i + 1)).h, nx') :: pt := by rw [g2]; exact ⟨_, rfl⟩
    have hslot : ∀ {v : V} {x : Value} {σ' : Sg}, okV σ' v x → env' = put (dstP c.n o.dst) v (S i).env → ∀ d, o.dst = some d → d < c.n → d < 256 → ∀ v, get4 (slotK d) (S (i + 1)).env = some v → okV σ' v x := fun {v x σ'} hv e d hd h1 h2 v' hv' => by
      rw [g2] at hv'
      simp only [hd] at hv'
      rw [mrg_same h1 h2, e, hd, put_same h1 h2] at hv'
      injection hv' with hv'; subst hv'; exact hv
    refine RL.perm hq (early_perm (l := l) (S := S) (D := D) (σ := σ) i L) (RL.frame hq fun w hst => ?_)
    rcases guard_split hG g1 (fun n => by simp) with ⟨hw, k1⟩ | ⟨hw, k1⟩
    · refine hO ⟨c.P, c.rd, c.n, w, keys (restL l S D σ i L), c.q⟩ q l [] o _ _ ρ ds _ σ nxc (S i).h (S i).env endK dd _ hP hq (rdOk_frame hrd hst) hw hH (hds.mono (fun _ _ => DR.raw (hX.nd hf))) hOps k1 (fun n => by simp) ?_
      intro σ' v x h2 nx2 dd2 ds2 L2 z1 z2 z3 z4 z5 z6
      obtain ⟨rfl, rfl⟩ := z5 (notDefer_of hnd)
      injection (show Rs.C .n (put (dstP c.n o.dst) v (S i).env) h2 nx2 dd2 = _ from z6) with _ y1 y2 y3
      subst y2 y3
      exact RL.nil fun hndp => fin (hX.eff hT hR ho hk hg.self hci hne z1 (by rw [e3]; exact z3) e4 hndp (hslot z2 y1.symm))
    · injection (show Rs.C .n (put (dstP c.n o.dst) (.t []) (S i).env) (S i).h nxc dd = _ from k1) with _ y1 y2 y3
      subst y2 y3
      exact RL.skip hw (RL.nil fun hndp => fin (hX.eff hT hR ho hk hg.self hci hne (Sg.le.refl σ) (by rw [e3]; exact hH) e4 hndp (hslot (σ' := σ) (v := .t []) (x := undef) ⟨[], trivial, rfl⟩ y1.symm)))
  · obtain ⟨g0, env', h', nx', ds', res', g1, _, g2⟩ := hT.sn ho hk
    have hci := cut_new hT hg hX ho hk
    rcases guard_split hG g1 (fun n => by simp) with ⟨hw, k1⟩ | ⟨hw, k1⟩
    · have hnw : NewR P c.n (S i).env (S i).h (S i).res env' h' o := by
        obtain ⟨d, op, ty, pos, af, g⟩ := o
        exact newOp (kind_new hk) k1
      obtain ⟨v, X, y1, y2, y3⟩ := hnw
      subst hP
      obtain ⟨ob, cap, val, y4, y5, y6⟩ := (y3 σ (evE c.n ρ) hOps).ex
      refine RL.step hq hw (notDefer_of hnd) fun w hst => ⟨val w.heap.size, w.alloc ob, (w.heap.size, ob) :: L, .inl (y6 w), hst.alloc ob, RL.nil (fin (hX.new (X := X) (cap := cap) hT hR ho hk hg.self (by rw [g2]; simp only [y2]; exact get8_same _ _ _) (fun p hp e => by have := hst.lt hp; omega) y4 (fun d hd h1 h2 v' hv' => ?_)))⟩
      rw [g2] at hv'
      simp only [hd] at hv'
      rw [mrg_same h1 h2, y1, hd, put_same h1 h2] at hv'
      injection hv' with hv'; subst hv'; exact y5 _
    · injection (show Rs.C .n (put (dstP c.n o.dst) (.t []) (S i).env) (S i).h (S i).res dd = _ from k1) with _ y1 y2 y3
      refine RL.skip hw (RL.nil (fin (σ' := σ) (c' := cc) (nx' := nxc) (hX.quiet hT ho (by rw [hk]; simp) (fun _ => by rw [g2]; simp only [← y2]; exact g0) (fun d hd h1 h2 v' hv' => ?_))))
      rw [g2] at hv'
      simp only [hd] at hv'
      rw [mrg_same h1 h2, ← y1, hd, put_same h1 h2] at hv'
      injection hv' with hv'; subst hv'; exact ⟨[], trivial, rfl⟩
theorem sp_init (hT : Tr P n q ih dd l env0 h0 nx nx1 S) (hR : R.val = nx.val + (news l).length) (h1 : nx1.val = nx.val + (news l).length + 1) (hH : HR σ0 nx h0 L) (hDn : ∀ k, D k = false) : SPx n l σ0 nx R S D ρ L 0 (σ0.ext R (0, 0)) nx1 := by
  have hRn : σ0 R = none := hH.fresh R (by omega)
  have hraw := ext_raw hRn (0, 0)
  have e0 : (S 0).h = h0 := by rw [hT.s0]
  have only : ∀ m x, hD l S 0 D m x → get8 m h0 = some x := fun m x h => by
    rcases h with h | ⟨a, op, _, _, _, h, _⟩
    · rwa [e0] at h
    · rw [hDn] at h; cases h
  have hne : ∀ m x, get8 m h0 = some x → m ≠ R := fun m x h e => by
    obtain ⟨b, d, ob, k, _⟩ := hH.own m x h
    rw [e, hRn] at k; cases k
  refine ⟨Nat.zero_le _, fun j o _ _ => ⟨fun h => (by rw [hDn] at h; cases h), fun h => (by omega)⟩, .inl rfl, ⟨[], by rw [hT.s0]⟩, fun j o d _ _ h => (by rw [hDn] at h; cases h), fun m hm => Sg.ext_ne (fun e => (by subst e; omega)) _, fun a o x ha hk h => ?_, ⟨_, Sg.ext_same _ _⟩, fun m hm => ?_, fun a o ha hk _ => ?_, fun m k x y b d d' h2 h3 s1 s2 => ?_, fun m x h => ?_, rfl⟩
  · have := hT.res_lt ha hk
    rw [Sg.ext_ne (fun e => by rw [e] at this; omega), hH.fresh _ this.1] at h; cases h
  · rw [Sg.ext_ne (fun e => by subst e; omega)]; exact hH.fresh m (by omega)
  · rw [e0]
    cases e : get8 (S a).res h0 with
    | none => rfl
    | some y =>
      obtain ⟨b, d, ob, k, _⟩ := hH.own _ y e
      rw [hH.fresh _ (hT.res_lt ha hk).1] at k; cases k
  · have a1 := only _ _ h2
    have a2 := only _ _ h3
    rw [Sg.ext_ne (hne _ _ a1)] at s1; rw [Sg.ext_ne (hne _ _ a2)] at s2
    exact hH.inj m k x y b d d' a1 a2 s1 s2
  · obtain ⟨b, d, ob, k1, k2, k3⟩ := hH.own m x (only _ _ h)
    exact ⟨b, d, ob, hraw _ _ k1, k2, k3.raw hraw⟩
theorem drawSnd (hO : OpSnd P ih) (hm : P.follows .mixedOrders = true) : DrawSnd P ih := by
  intro n q id ops env h nx dd e env' h' nx' dd' hr c σ ρ ds L hP hn hq hrd hE hH hds
  unfold runR at hr
  obtain ⟨hdraw, hr⟩ := cond_ok hr (fun n => by simp)
  obtain ⟨nx1, g1, g2, g3⟩ := addN_ok hr (fun n => by simp)
  obtain ⟨R, hR⟩ := g3 (news ops).length (by omega)
  split at g2
  rotate_left
  · cases g2
  rename_i s hs
  split at g2
  rotate_left
  · cases g2
  rename_i hh nx2 pt hpast
  obtain ⟨hrecs, g4⟩ := cond_ok g2 (fun n => by simp)
  injection g4 with e1 e2 e3 e4 e5; subst e1 e2 e3 e4 e5
  obtain ⟨S, t1, t2, t3⟩ := trace _ _ _ hs
  have hZl : (zip3 (kinds ops (clOf ops [])) ops (trOps P n q ops ops) n).length = ops.length := zip3_len (kinds_len _ _) (trOps_len _)
  rw [hZl] at t2
  have hT : Tr P n q ih dd ops env h nx nx1 S := ⟨hdraw, t1, t3, by rw [t2]; exact hrecs⟩
  obtain ⟨p1, p2, p3, p4, p5, p6, p7⟩ := hT.parts
  have hRv : R.val = nx.val + (news ops).length := hR
  refine X.set (k := []) [] (clOf ops []) (SPd n ops σ nx R S) hq (by rw [hP]; exact hm) p1 p2 p3 (fun D hD => ⟨0, _, nx1, sp_init hT hRv (by omega) hH hD⟩) (allAt_of fun i o ho => ?_) ?_
  · rw [Nat.zero_add]
    exact stg_ok hO hP hn hq hrd hT hRv hE hH.fresh hds ho
  · rintro ρ' L' D hD _ hfix ⟨cc, σ', nxc, hX⟩
    refine ⟨L', List.Perm.refl _, L', List.Sublist.refl _, rfl, σ', ⟨hX.nd hH.fresh, fun m x h1 h2 k y h3 => ?_⟩, fun t v h1 h2 hv => ?_, ?_, hds.mono (fun _ _ => DR.raw (hX.nd hH.fresh))⟩
    · have hk := hH.top k y h3
      cases Nat.lt_or_ge m.val nx.val with
      | inr h => omega
      | inl h => rw [hX.low m h, h2] at h1; cases h1
    · by_cases hw : ∃ (j : Nat) (o' : Oper), ops[j]? = some o' ∧ o'.dst = some t
      · obtain ⟨j, o', hj, hd⟩ := hw
        have hjl := (List.getElem?_eq_some_iff.1 hj).1
        have := hT.slot h2 (i := j + 1) (ops.length - (j + 1)) (by omega) (fun k o2 hk1 hk2 hk3 hd2 => by have := dstsB_inj p1 k j o2 o' t hk3 hj hd2 hd; omega)
        rw [show j + 1 + (ops.length - (j + 1)) = ops.length by omega, t2, hv] at this
        exact hX.slots j o' t hj hd (hD j hjl) h1 h2 v this.symm
      · have := hT.slot h2 (i := 0) ops.length (by omega) (fun k o2 _ _ hk3 hd2 => hw ⟨k, o2, hk3, hd2⟩)
        rw [Nat.zero_add, t2, hv, t1] at this
        rw [hfix t (fun o' hm hd => by obtain ⟨j, hj⟩ := List.mem_iff_getElem?.1 hm; exact hw ⟨j, o', hj, hd⟩)]
        exact okV_raw (hX.nd hH.fresh) (hE t v h1 h2 this.symm)
    · have hne : ∀ j o, cc ≤ j → j < ops.length → ops[j]? = some o → kind0 o.op ≠ 2 := fun j o h1 h2 h3 h4 => by
        have := (hX.cut j o h3 h4).1 (hD j h2); omega
      have hH2 := hX.hr hT (Nat.le_refl _) hX.cle hne (fun a op _ _ _ ha => hD a ha)
      have hps : (S ops.length).past = (S cc).past := by
        have := hT.pastS (i := cc) (ops.length - cc) (by have := hX.cle; omega) (by rw [show cc + (ops.length - cc) = ops.length by have := hX.cle; omega]; exact hne)
        rwa [show cc + (ops.length - cc) = ops.length by have := hX.cle; omega] at this
      obtain ⟨pt2, hp2⟩ := hX.past
      rw [t2, hpast, hp2] at hps
      injection hps with hps; injection hps with _ e6; subst e6
      rw [t2] at hH2
      exact hH2.perm (fun p hp => (rest_mem.1 hp).1)
end
end Go.Proofs.YtpcdcemcjbeajaaGreatDoor
end
