/- EV, proved right, part 23: regions that draw their order. · EV, proved right, part 24: what is known at each set of done operations of a region that draws its order. · EV, proved right, part 25: regions that draw their order, as a whole. -/
import Derived.Test.YtgmlbaffghogaaaGreatDoorEvJ
/-! EV, proved right, part 23: regions that draw their order. -/
set_option linter.unusedVariables false
set_option linter.unusedSimpArgs false
namespace Go.Proofs.YtgmlbaffghogaaaGreatDoor
open Go.RowKit
noncomputable def opF (P : Program) (n : Nat) (q : Bool) (l : List Oper) (o : Oper) : Rn := guarded (trG n l o.guard) (dstP n o.dst) (trOp P n q (dstP n o.dst) o.op)
/-- The evaluator's way through the region, in the order of its text. -/
structure Tr (P : Program) (n : Nat) (q : Bool) (ih : Ih) (dd : List D) (l : List Oper) (env0 : En) (h0 : Hp) (nx nx1 : Nm) (S : Nat → DS) : Prop where
  draw : drawB l (clOf l []) = true
  s0 : S 0 = ⟨env0, h0, nx, [(h0, nx1)], 0, []⟩
  st : ∀ i z, (zip3 (kinds l (clOf l [])) l (trOps P n q l l) n)[i]? = some z → stepD ih dd z (S i) = some (S (i + 1))
  rcs : recsB ih dd (S l.length).past.reverse (S l.length).recs = true
theorem kind_cases (o : Op) : kind0 o = 0 ∨ kind0 o = 1 ∨ kind0 o = 2 ∨ kind0 o = 3 := by
  unfold kind0; cases isNew o <;> cases isPure o <;> cases isRead o <;> simp
theorem kind_new {o : Op} (h : kind0 o = 3) : isNew o = true := by
  unfold kind0 at h; cases h1 : isNew o <;> cases h2 : isPure o <;> cases h3 : isRead o <;> simp_all
theorem kind_quiet {o : Op} (h : kind0 o = 0 ∨ kind0 o = 1) : quietO o = true := by
  unfold kind0 at h; unfold quietO; cases h1 : isNew o <;> cases h2 : isPure o <;> cases h3 : isRead o <;> simp_all
def backN (l : List Oper) (cl : List (List Nat)) (i : Nat) : Nat := ((effs l).filter fun e => Nat.blt e i && !((cl.getD i []).contains e)).length
def fwdN (l : List Oper) (cl : List (List Nat)) (i : Nat) : Nat := ((effs l).filter fun e => Nat.blt i e && !((cl.getD e []).contains i)).length
theorem effs_eq (l : List Oper) : effs l = selI 2 l 0 := rfl
theorem news_eq (l : List Oper) : news l = selI 3 l 0 := rfl
theorem sel_mem {κ : Nat} {l : List Oper} {i : Nat} : i ∈ selI κ l 0 ↔ ∃ o, l[i]? = some o ∧ kind0 o.op = κ := by
  have := selI_mem (κ := κ) (l := l) (k := 0) (i := i); rwa [Nat.zero_add] at this
theorem cntK_mono (κ : Nat) (l : List Oper) {i j : Nat} (h : i ≤ j) : cntK κ l i ≤ cntK κ l j := by
  unfold cntK
  exact List.countP_mono_left (fun e _ he => by rw [Nat.blt_eq] at he ⊢; omega)
section
variable {P : Program} {n : Nat} {q : Bool} {ih : Ih} {dd : List D} {l : List Oper} {env0 : En} {h0 : Hp} {nx nx1 : Nm} {S : Nat → DS} {i : Nat} {o : Oper}
/-- A guard, as text. -/
theorem guard_syn {ol : List Oper} {gd : Option (Nat × Bool)} {F : Fx} {k : Kt} {env : En} {h : Hp} {nx : Nm} {d : Option K4} {e : Ex} {env' : En} {h' : Hp} {nx' : Nm} {ds : List D} (hr : guarded (trG n ol gd) d F ih k env h nx dd = .C e env' h' nx' ds) : F.run ih k env h nx dd = .C e env' h' nx' ds ∨ k (put d (.t []) env) h nx dd = .C e env' h' nx' ds := by
  cases hG : trG n ol gd with
  | no => rw [hG] at hr; exact .inl hr
  | bad => rw [hG] at hr; cases hr
  | on p w =>
    rw [hG] at hr
    have hr' : guard1 d F p w ih k env h nx dd = _ := hr
    unfold guard1 at hr'
    split at hr'
    · rename_i b hs
      cases hw : (cond w b (bnot b)) with
      | true => rw [hw] at hr'; exact .inl hr'
      | false => rw [hw] at hr'; exact .inr hr'
    · exact .inr hr'
    · cases hr'
namespace Tr
theorem parts (hT : Tr P n q ih dd l env0 h0 nx nx1 S) : dstsB l [] = true ∧ backC l 0 = true ∧ clB l (clOf l []) 0 l = true ∧ chainB (clOf l []) (effs l) = true ∧ madeB (clOf l []) (news l) (effs l) = true ∧ slotsB l (clOf l []) = true ∧ l.all (fun o => noDefer o.op) = true := by
  have := hT.draw
  simp only [drawB, Bool.and_eq_true] at this
  obtain ⟨⟨⟨⟨⟨⟨h1, h2⟩, h3⟩, h4⟩, h5⟩, h6⟩, h7⟩ := this
  exact ⟨h1, h2, h3, h4, h5, h6, h7⟩
theorem step (hT : Tr P n q ih dd l env0 h0 nx nx1 S) (h : l[i]? = some o) : stepD ih dd ((match kind0 o.op with | 0 => .p | 1 => .r (backN l (clOf l []) i) (fwdN l (clOf l []) i) | 2 => .e | _ => .n), dstP n o.dst, opF P n q l o) (S i) = some (S (i + 1)) :=
  hT.st i _ (zip3_get (kinds_get h) h (trOps_get h))
theorem sp (hT : Tr P n q ih dd l env0 h0 nx nx1 S) (h : l[i]? = some o) (hk : kind0 o.op = 0) : ∃ env' hh nx' ds, opF P n q l o ih endK (S i).env noHp topN dd = .C .n env' hh nx' ds ∧ S (i + 1) = { S i with env := mrg (dstP n o.dst) env' (S i).env } := by
  have := hT.step h; rw [hk] at this; exact step_p this
theorem sr (hT : Tr P n q ih dd l env0 h0 nx nx1 S) (h : l[i]? = some o) (hk : kind0 o.op = 1) : ∃ hp nx pt env' hh nx' ds, (S i).past = (hp, nx) :: pt ∧ opF P n q l o ih endK (S i).env hp nx dd = .C .n env' hh nx' ds ∧
    S (i + 1) = { S i with env := mrg (dstP n o.dst) env' (S i).env, recs := cond (Nat.beq (Nat.add (backN l (clOf l []) i) (fwdN l (clOf l []) i)) 0) (S i).recs (⟨opF P n q l o, (S i).env, getD (dstP n o.dst) env', dstP n o.dst, (S i).ec, backN l (clOf l []) i, fwdN l (clOf l []) i⟩ :: (S i).recs) } := by
  have := hT.step h; rw [hk] at this; exact step_r this
theorem se (hT : Tr P n q ih dd l env0 h0 nx nx1 S) (h : l[i]? = some o) (hk : kind0 o.op = 2) : ∃ hp nx pt env' h' nx' ds, (S i).past = (hp, nx) :: pt ∧ opF P n q l o ih endK (S i).env (S i).h nx dd = .C .n env' h' nx' ds ∧ S (i + 1) = { S i with env := mrg (dstP n o.dst) env' (S i).env, h := h', past := (h', nx') :: (S i).past, ec := (S i).ec + 1 } := by
  have := hT.step h; rw [hk] at this; exact step_e this
theorem sn (hT : Tr P n q ih dd l env0 h0 nx nx1 S) (h : l[i]? = some o) (hk : kind0 o.op = 3) : get8 (S i).res (S i).h = none ∧ ∃ env' h' nx' ds res', opF P n q l o ih endK (S i).env (S i).h (S i).res dd = .C .n env' h' nx' ds ∧ res'.val = (S i).res.val + 1 ∧ S (i + 1) = { S i with env := mrg (dstP n o.dst) env' (S i).env, h := h', res := res' } := by
  have := hT.step h; rw [hk] at this; exact step_n this
theorem sum (hT : Tr P n q ih dd l env0 h0 nx nx1 S) (h : l[i]? = some o) : (∃ env', (S (i + 1)).env = mrg (dstP n o.dst) env' (S i).env) ∧ (S (i + 1)).ec = (S i).ec + (if kind0 o.op = 2 then 1 else 0) ∧ (S (i + 1)).res.val = (S i).res.val + (if kind0 o.op = 3 then 1 else 0) ∧
    (kind0 o.op ≠ 2 → (S (i + 1)).past = (S i).past) ∧ (kind0 o.op ≠ 2 → kind0 o.op ≠ 3 → (S (i + 1)).h = (S i).h) ∧ (∀ p ∈ (S i).recs, p ∈ (S (i + 1)).recs) := by
  rcases kind_cases o.op with hk | hk | hk | hk
  · obtain ⟨env', hh, nx', ds, _, h2⟩ := hT.sp h hk
    rw [h2, hk]; exact ⟨⟨env', rfl⟩, by simp, by simp, by simp, by simp, fun p hp => hp⟩
  · obtain ⟨hp, nx, pt, env', hh, nx', ds, _, _, h2⟩ := hT.sr h hk
    rw [h2, hk]; refine ⟨⟨env', rfl⟩, by simp, by simp, by simp, by simp, fun p hp => ?_⟩
    show p ∈ cond _ _ _
    cases Nat.beq (Nat.add (backN l (clOf l []) i) (fwdN l (clOf l []) i)) 0 with
    | true => exact hp
    | false => exact List.mem_cons_of_mem _ hp
  · obtain ⟨hp, nx, pt, env', hh, nx', ds, _, _, h2⟩ := hT.se h hk
    rw [h2, hk]; exact ⟨⟨env', rfl⟩, by simp, by simp, by simp, by simp, fun p hp => hp⟩
  · obtain ⟨_, env', hh, nx', ds, res', _, h1, h2⟩ := hT.sn h hk
    rw [h2, hk]; exact ⟨⟨env', rfl⟩, by simp, by simpa using h1, by simp, by simp, fun p hp => hp⟩
theorem ec (hT : Tr P n q ih dd l env0 h0 nx nx1 S) : ∀ i, i ≤ l.length → (S i).ec = cntK 2 l i
  | 0, _ => by rw [hT.s0, cntK_zero]
  | i + 1, hi => by
    have ho := List.getElem?_eq_getElem (l := l) (i := i) (by omega)
    rw [(hT.sum ho).2.1, cntK_succ 2 ho, hT.ec i (by omega)]
theorem res (hT : Tr P n q ih dd l env0 h0 nx nx1 S) : ∀ i, i ≤ l.length → (S i).res.val = nx.val + cntK 3 l i
  | 0, _ => by rw [hT.s0, cntK_zero]; rfl
  | i + 1, hi => by
    have ho := List.getElem?_eq_getElem (l := l) (i := i) (by omega)
    rw [(hT.sum ho).2.2.1, cntK_succ 3 ho, hT.res i (by omega)]; omega
theorem recsM (hT : Tr P n q ih dd l env0 h0 nx nx1 S) {p : Rec} : ∀ k i, i + k ≤ l.length → p ∈ (S i).recs → p ∈ (S (i + k)).recs
  | 0, i, _, h => h
  | k + 1, i, hk, h => by
    have := hT.recsM k i (by omega) h
    exact (hT.sum (List.getElem?_eq_getElem (l := l) (i := i + k) (by omega))).2.2.2.2.2 p this
theorem slot (hT : Tr P n q ih dd l env0 h0 nx nx1 S) {t : Nat} (h2 : t < 256) {i : Nat} : ∀ k, i + k ≤ l.length → (∀ j o, i ≤ j → j < i + k → l[j]? = some o → o.dst ≠ some t) → get4 (slotK t) (S (i + k)).env = get4 (slotK t) (S i).env
  | 0, _, _ => rfl
  | k + 1, hk, hw => by
    have ho := List.getElem?_eq_getElem (l := l) (i := i + k) (by omega)
    obtain ⟨⟨env', h3⟩, _⟩ := hT.sum ho
    rw [show i + (k + 1) = i + k + 1 by omega, h3, mrg_ne (hw (i + k) _ (by omega) (by omega) ho) h2]
    exact hT.slot h2 k (by omega) (fun j o a b => hw j o a (by omega))
theorem pastS (hT : Tr P n q ih dd l env0 h0 nx nx1 S) {i : Nat} : ∀ k, i + k ≤ l.length → (∀ j o, i ≤ j → j < i + k → l[j]? = some o → kind0 o.op ≠ 2) → (S (i + k)).past = (S i).past
  | 0, _, _ => rfl
  | k + 1, hk, hw => by
    have ho := List.getElem?_eq_getElem (l := l) (i := i + k) (by omega)
    rw [show i + (k + 1) = i + k + 1 by omega, (hT.sum ho).2.2.2.1 (hw (i + k) _ (by omega) (by omega) ho)]
    exact hT.pastS k (by omega) (fun j o a b => hw j o a (by omega))
theorem newH (hT : Tr P n q ih dd l env0 h0 nx nx1 S) (h : l[i]? = some o) (hk : kind0 o.op = 3) : (S (i + 1)).h = (S i).h ∨ ∃ X, (S (i + 1)).h = set8 (S i).res (some X) (S i).h := by
  obtain ⟨_, env', h', nx', ds, res', h1, _, h2⟩ := hT.sn h hk
  rw [h2]
  rcases guard_syn h1 with h3 | h3
  · obtain ⟨d, op, ty, pos, af, g⟩ := o
    obtain ⟨v, X, _, h4, _⟩ := newOp (g := g) (af := af) (pos := pos) (ty := ty) (kind_new hk) h3
    exact .inr ⟨X, h4⟩
  · injection h3 with _ _ h3; exact .inl h3.symm
theorem cover (hT : Tr P n q ih dd l env0 h0 nx nx1 S) {c : Nat} : ∀ k, c + k ≤ l.length → (∀ j o, c ≤ j → j < c + k → l[j]? = some o → kind0 o.op ≠ 2) → ∀ m x, get8 m (S (c + k)).h = some x →
    get8 m (S c).h = some x ∨ ∃ a op, l[a]? = some op ∧ kind0 op.op = 3 ∧ c ≤ a ∧ a < c + k ∧ (S a).res = m ∧ get8 m (S (a + 1)).h = some x
  | 0, _, _, m, x, h => .inl h
  | k + 1, hk, hw, m, x, h => by
    have ho := List.getElem?_eq_getElem (l := l) (i := c + k) (by omega)
    have hne := hw (c + k) _ (by omega) (by omega) ho
    have prev : get8 m (S (c + k)).h = some x → get8 m (S c).h = some x ∨ ∃ a op, l[a]? = some op ∧ kind0 op.op = 3 ∧ c ≤ a ∧ a < c + (k + 1) ∧ (S a).res = m ∧ get8 m (S (a + 1)).h = some x := fun h => by
      rcases hT.cover k (by omega) (fun j o a b => hw j o a (by omega)) m x h with h | ⟨a, op, g1, g2, g3, g4, g5⟩
      · exact .inl h
      · exact .inr ⟨a, op, g1, g2, g3, by omega, g5⟩
    by_cases h3 : kind0 (l[c + k]'(by omega)).op = 3
    · rcases hT.newH ho h3 with e | ⟨X, e⟩
      · rw [show c + (k + 1) = c + k + 1 by omega, e] at h; exact prev h
      · by_cases em : m = (S (c + k)).res
        · exact .inr ⟨c + k, _, ho, h3, by omega, by omega, em.symm, h⟩
        · rw [show c + (k + 1) = c + k + 1 by omega, e, get8_ne em] at h; exact prev h
    · rw [show c + (k + 1) = c + k + 1 by omega, (hT.sum ho).2.2.2.2.1 hne h3] at h; exact prev h
theorem res_inj (hT : Tr P n q ih dd l env0 h0 nx nx1 S) {a b : Nat} {oa ob : Oper} (ha : l[a]? = some oa) (hb : l[b]? = some ob) (ka : kind0 oa.op = 3) (kb : kind0 ob.op = 3) (h : (S a).res = (S b).res) : a = b := by
  have la := (List.getElem?_eq_some_iff.1 ha).1
  have lb := (List.getElem?_eq_some_iff.1 hb).1
  have h' := congrArg Nm.val h
  rw [hT.res a (by omega), hT.res b (by omega)] at h'
  have sa := cntK_succ 3 ha
  have sb := cntK_succ 3 hb
  rw [if_pos ka] at sa; rw [if_pos kb] at sb
  rcases Nat.lt_trichotomy a b with hlt | e | hlt
  · have := cntK_mono 3 l (show a + 1 ≤ b from hlt); omega
  · exact e
  · have := cntK_mono 3 l (show b + 1 ≤ a from hlt); omega
theorem res_lt (hT : Tr P n q ih dd l env0 h0 nx nx1 S) {a : Nat} {oa : Oper} (ha : l[a]? = some oa) (ka : kind0 oa.op = 3) : nx.val ≤ (S a).res.val ∧ (S a).res.val < nx.val + (news l).length := by
  have la := (List.getElem?_eq_some_iff.1 ha).1
  rw [hT.res a (by omega)]
  have sa := cntK_succ 3 ha
  rw [if_pos ka] at sa
  have : cntK 3 l (a + 1) ≤ (news l).length := List.countP_le_length
  omega
/-- The state that a read meets. -/
theorem again_ok (hT : Tr P n q ih dd l env0 h0 nx nx1 S) (h : l[i]? = some o) (hk : kind0 o.op = 1) {c : Nat} (hc : c ≤ l.length) {hh : Hp} {nxc : Nm} {pt : List (Hp × Nm)} (hp : (S c).past = (hh, nxc) :: pt)
    (h1 : (S i).ec ≤ (S c).ec + backN l (clOf l []) i) (h2 : (S c).ec ≤ (S i).ec + fwdN l (clOf l []) i) : ∃ env' env'' h' nx' ds, opF P n q l o ih endK (S i).env hh nxc dd = .C .n env' h' nx' ds ∧ (S (i + 1)).env = mrg (dstP n o.dst) env'' (S i).env ∧ (env' = env'' ∨ ∃ p, dstP n o.dst = some p ∧ get4 p env' = get4 p env'') := by
  have hi := (List.getElem?_eq_some_iff.1 h).1
  obtain ⟨hp2, nx2, pt2, env', hh2, nx2', ds2, g1, g2, g3⟩ := hT.sr h hk
  have hl0 : (S 0).past.length = (S 0).ec + 1 := by rw [hT.s0]; rfl
  have hZl : (zip3 (kinds l (clOf l [])) l (trOps P n q l l) n).length = l.length := zip3_len (kinds_len _ _) (trOps_len _)
  have pc := past_at hT.st hl0 (i := c) (by rw [hZl]; exact hc) hp
  have pi := past_at hT.st hl0 (i := i) (by rw [hZl]; omega) g1
  rw [hZl] at pc pi
  cases hz : Nat.beq (Nat.add (backN l (clOf l []) i) (fwdN l (clOf l []) i)) 0 with
  | true =>
    have hz' : backN l (clOf l []) i + fwdN l (clOf l []) i = 0 := Nat.eq_of_beq_eq_true hz
    rw [show (S c).ec = (S i).ec by omega, pi] at pc
    injection pc with pc; injection pc with e1 e2; subst e1 e2
    exact ⟨env', env', _, _, _, g2, by rw [g3], .inl rfl⟩
  | false =>
    rw [hz] at g3
    have hm : (⟨opF P n q l o, (S i).env, getD (dstP n o.dst) env', dstP n o.dst, (S i).ec, backN l (clOf l []) i, fwdN l (clOf l []) i⟩ : Rec) ∈ (S (i + 1)).recs := by
      rw [g3]; exact List.mem_cons_self
    have hm2 := hT.recsM (l.length - (i + 1)) (i + 1) (by omega) hm
    rw [show i + 1 + (l.length - (i + 1)) = l.length by omega] at hm2
    obtain ⟨b1, b2⟩ := recsB_ok hT.rcs _ hm2
    simp only at b1 b2
    obtain ⟨a, b3, b4⟩ := b2 (S c).ec (by omega) (by omega)
    rw [pc] at b3
    injection b3 with b3; subst b3
    unfold again at b4
    split at b4
    · rename_i env'' h'' nx'' ds'' b5
      obtain ⟨b6, b7⟩ := beqO_eq b4
      refine ⟨env'', env', _, _, _, b5, by rw [g3], .inr ?_⟩
      simp only at b6 b7
      cases hd : dstP n o.dst with
      | none => rw [hd] at b7; exact absurd rfl b7
      | some p => rw [hd] at b6; exact ⟨p, rfl, b6⟩
    · cases b4
end Tr
end
end Go.Proofs.YtgmlbaffghogaaaGreatDoor
/-! EV, proved right, part 24: what is known at each set of done operations of a region that draws its order. -/
set_option linter.unusedVariables false
set_option linter.unusedSimpArgs false
namespace Go.Proofs.YtgmlbaffghogaaaGreatDoor
open Go.RowKit
/-- The blocks that are known: those behind the last act, and what has been made early. -/
def hD (l : List Oper) (S : Nat → DS) (c : Nat) (D : Nat → Bool) (m : Nm) (x : O) : Prop := get8 m (S c).h = some x ∨ ∃ a op, l[a]? = some op ∧ kind0 op.op = 3 ∧ c ≤ a ∧ D a = true ∧ (S a).res = m ∧ get8 m (S (a + 1)).h = some x
structure SPx (n : Nat) (l : List Oper) (σ0 : Sg) (nx R : Nm) (S : Nat → DS) (D : Nat → Bool) (ρ : Env) (L : List Ent) (c : Nat) (σ : Sg) (nxc : Nm) : Prop where
  cle : c ≤ l.length
  cut : ∀ j o, l[j]? = some o → kind0 o.op = 2 → (D j = true ↔ j < c)
  cut0 : c = 0 ∨ ∃ k o, c = k + 1 ∧ l[k]? = some o ∧ kind0 o.op = 2
  past : ∃ pt, (S c).past = ((S c).h, nxc) :: pt
  slots : ∀ j o d, l[j]? = some o → o.dst = some d → D j = true → d < n → d < 256 → ∀ v, get4 (slotK d) (S (j + 1)).env = some v → okV σ v (ρ d)
  low : ∀ m : Nm, m.val < nx.val → σ m = σ0 m
  made : ∀ a o x, l[a]? = some o → kind0 o.op = 3 → σ (S a).res = some x → D a = true ∧ ∃ y, get8 (S a).res (S (a + 1)).h = some y
  dum : ∃ x, σ R = some x
  fresh : ∀ m : Nm, nxc.val ≤ m.val → σ m = none
  early : ∀ a o, l[a]? = some o → kind0 o.op = 3 → c ≤ a → get8 (S a).res (S c).h = none
  inj : ∀ m k x y b d d', hD l S c D m x → hD l S c D k y → σ m = some (b, d) → σ k = some (b, d') → m = k
  own : ∀ m x, hD l S c D m x → ∃ b d ob, σ m = some (b, d) ∧ (b, ob) ∈ L ∧ OR σ d x ob
abbrev addD (i : Nat) (D : Nat → Bool) : Nat → Bool := fun k => k == i || D k
theorem addD_self (i : Nat) (D : Nat → Bool) : addD i D i = true := by simp [addD]
theorem addD_ne {i k : Nat} (D : Nat → Bool) (h : k ≠ i) : addD i D k = D k := by simp [addD, h]
section
variable {P : Program} {n : Nat} {q : Bool} {ih : Ih} {dd : List D} {l : List Oper} {env0 : En} {h0 : Hp} {nx nx1 R : Nm} {S : Nat → DS} {i : Nat} {o : Oper} {σ0 σ : Sg} {D : Nat → Bool} {ρ ρ0 : Env} {L : List Ent} {c : Nat} {nxc : Nm}
theorem slots_upd {σ' : Sg} {x : Value} (hT : Tr P n q ih dd l env0 h0 nx nx1 S) (ho : l[i]? = some o) (hs : ∀ m y, σ m = some y → σ' m = some y) (h : ∀ j o d, l[j]? = some o → o.dst = some d → D j = true → d < n → d < 256 → ∀ v, get4 (slotK d) (S (j + 1)).env = some v → okV σ v (ρ d))
    (hx : ∀ d, o.dst = some d → d < n → d < 256 → ∀ v, get4 (slotK d) (S (i + 1)).env = some v → okV σ' v x) :
    ∀ j o' d, l[j]? = some o' → o'.dst = some d → addD i D j = true → d < n → d < 256 → ∀ v, get4 (slotK d) (S (j + 1)).env = some v → okV σ' v (updO ρ o.dst x d) := by
  intro j o' d hj hd hD h1 h2 v hv
  by_cases e : j = i
  · subst e
    rw [ho] at hj; injection hj with hj; subst hj
    rw [hd]; show okV σ' v (upd ρ d x d); rw [upd_same]
    exact hx d hd h1 h2 v hv
  · rw [addD_ne D e] at hD
    have : updO ρ o.dst x d = ρ d := by
      cases ho2 : o.dst with
      | none => rfl
      | some t => exact upd_ne _ _ (fun e2 => e (dstsB_inj hT.parts.1 j i o' o d hj ho hd (by rw [ho2, e2])))
    rw [this]
    exact okV_raw hs (h j o' d hj hd hD h1 h2 v hv)
theorem SPx.nd (hX : SPx n l σ0 nx R S D ρ L c σ nxc) (hf : ∀ m : Nm, nx.val ≤ m.val → σ0 m = none) (m : Nm) (y : Nat × Nat) (h : σ0 m = some y) : σ m = some y := by
  have : m.val < nx.val := by
    cases Nat.lt_or_ge m.val nx.val with
    | inl h => exact h
    | inr h2 => rw [hf m h2] at h; cases h
  rw [hX.low m this]; exact h
/-- An operation that makes no block and does nothing to one. -/
theorem SPx.quiet {x : Value} (hX : SPx n l σ0 nx R S D ρ L c σ nxc) (hT : Tr P n q ih dd l env0 h0 nx nx1 S) (ho : l[i]? = some o) (hk : kind0 o.op ≠ 2) (h3 : kind0 o.op = 3 → get8 (S i).res (S (i + 1)).h = none)
    (hx : ∀ d, o.dst = some d → d < n → d < 256 → ∀ v, get4 (slotK d) (S (i + 1)).env = some v → okV σ v x) : SPx n l σ0 nx R S (addD i D) (updO ρ o.dst x) L c σ nxc := by
  have hb : ∀ m y, hD l S c (addD i D) m y → hD l S c D m y := by
    rintro m y (h | ⟨a, op, g1, g2, g3, g4, g5, g6⟩)
    · exact .inl h
    · by_cases e : a = i
      · subst e
        rw [ho] at g1; injection g1 with g1; subst g1
        rw [← g5, h3 g2] at g6; cases g6
      · exact .inr ⟨a, op, g1, g2, g3, by rwa [addD_ne D e] at g4, g5, g6⟩
  refine ⟨hX.cle, fun j o' hj hk' => ?_, hX.cut0, hX.past, slots_upd hT ho (fun _ _ h => h) hX.slots hx, hX.low, fun a o' y ha hk' hs => ?_, hX.dum, hX.fresh, hX.early, fun m k x y b d d' h1 h2 => hX.inj m k x y b d d' (hb _ _ h1) (hb _ _ h2), fun m y h => hX.own m y (hb _ _ h)⟩
  · have : j ≠ i := fun e => by subst e; rw [ho] at hj; injection hj with hj; subst hj; exact hk hk'
    rw [addD_ne D this]; exact hX.cut j o' hj hk'
  · obtain ⟨g1, g2⟩ := hX.made a o' y ha hk' hs
    exact ⟨by simp [addD, g1], g2⟩
/-- A block more. -/
theorem SPx.new {x : Value} {b cap : Nat} {X : O} {ob : Obj} (hX : SPx n l σ0 nx R S D ρ L c σ nxc) (hT : Tr P n q ih dd l env0 h0 nx nx1 S) (hR : R.val = nx.val + (news l).length) (ho : l[i]? = some o) (hk : kind0 o.op = 3) (hi : D i = false) (hX1 : get8 (S i).res (S (i + 1)).h = some X) (hb : ∀ p ∈ L, p.1 ≠ b) (hO : OR σ cap X ob)
    (hx : ∀ d, o.dst = some d → d < n → d < 256 → ∀ v, get4 (slotK d) (S (i + 1)).env = some v → okV (σ.ext (S i).res (b, cap)) v x) : SPx n l σ0 nx R S (addD i D) (updO ρ o.dst x) ((b, ob) :: L) c (σ.ext (S i).res (b, cap)) nxc := by
  have hr := hT.res_lt ho hk
  have hn : σ (S i).res = none := by
    cases e : σ (S i).res with
    | none => rfl
    | some y => have := (hX.made i o y ho hk e).1; rw [hi] at this; cases this
  have hraw := ext_raw hn (b, cap)
  have hdum : ∀ m : Nm, nxc.val ≤ m.val → m ≠ (S i).res := fun m hm e => by
    obtain ⟨y, hy⟩ := hX.dum
    have hRc : R.val < nxc.val := by
      cases Nat.lt_or_ge R.val nxc.val with
      | inl h => exact h
      | inr h => rw [hX.fresh R h] at hy; cases hy
    subst e; omega
  have key : ∀ m y, hD l S c (addD i D) m y → (m = (S i).res ∧ y = X) ∨ (m ≠ (S i).res ∧ hD l S c D m y) := by
    intro m y h
    by_cases e : m = (S i).res
    · left
      refine ⟨e, ?_⟩
      rcases h with h | ⟨a, op, g1, g2, g3, g4, g5, g6⟩
      · obtain ⟨b', d, ob', k1, _⟩ := hX.own m y (.inl h)
        rw [e, hn] at k1; cases k1
      · have : a = i := hT.res_inj g1 ho g2 hk (by rw [g5, e])
        subst this
        rw [e, hX1] at g6; injection g6 with g6; exact g6.symm
    · right
      refine ⟨e, ?_⟩
      rcases h with h | ⟨a, op, g1, g2, g3, g4, g5, g6⟩
      · exact .inl h
      · have : a ≠ i := fun e2 => by subst e2; exact e g5.symm
        exact .inr ⟨a, op, g1, g2, g3, by rwa [addD_ne D this] at g4, g5, g6⟩
  refine ⟨hX.cle, fun j o' hj hk' => ?_, hX.cut0, hX.past, slots_upd hT ho hraw hX.slots hx, fun m hm => ?_, fun a o' y ha hk' hs => ?_, ?_, fun m hm => ?_, hX.early, fun m k x y b' d d' h1 h2 s1 s2 => ?_, fun m y h => ?_⟩
  · have : j ≠ i := fun e => by subst e; rw [ho] at hj; injection hj with hj; subst hj; rw [hk] at hk'; cases hk'
    rw [addD_ne D this]; exact hX.cut j o' hj hk'
  · rw [Sg.ext_ne (fun e => by subst e; omega)]; exact hX.low m hm
  · by_cases e : (S a).res = (S i).res
    · have : a = i := hT.res_inj ha ho hk' hk e
      subst this
      exact ⟨addD_self a D, X, hX1⟩
    · rw [Sg.ext_ne e] at hs
      obtain ⟨g1, g2⟩ := hX.made a o' y ha hk' hs
      exact ⟨by simp [addD, g1], g2⟩
  · obtain ⟨y, hy⟩ := hX.dum; exact ⟨y, hraw _ _ hy⟩
  · rw [Sg.ext_ne (hdum m hm)]; exact hX.fresh m hm
  · rcases key _ _ h1 with ⟨e1, _⟩ | ⟨e1, h1⟩
    · rcases key _ _ h2 with ⟨e2, _⟩ | ⟨e2, h2⟩
      · rw [e1, e2]
      · obtain ⟨b1, c1, ob1, k1, k2, _⟩ := hX.own k y h2
        rw [e1, Sg.ext_same] at s1; rw [Sg.ext_ne e2, k1] at s2
        injection s1 with s1; injection s1 with a1 a2; injection s2 with s2; injection s2 with a3 a4
        exact absurd (by rw [a3, ← a1]) (hb _ k2)
    · rcases key _ _ h2 with ⟨e2, _⟩ | ⟨e2, h2⟩
      · obtain ⟨b1, c1, ob1, k1, k2, _⟩ := hX.own m x h1
        rw [e2, Sg.ext_same] at s2; rw [Sg.ext_ne e1, k1] at s1
        injection s1 with s1; injection s1 with a1 a2; injection s2 with s2; injection s2 with a3 a4
        exact absurd (by rw [a1, ← a3]) (hb _ k2)
      · rw [Sg.ext_ne e1] at s1; rw [Sg.ext_ne e2] at s2
        exact hX.inj m k x y b' d d' h1 h2 s1 s2
  · rcases key _ _ h with ⟨e1, rfl⟩ | ⟨e1, h⟩
    · exact ⟨b, cap, ob, by rw [e1]; exact Sg.ext_same _ _, List.mem_cons_self, hO.raw hraw⟩
    · obtain ⟨b1, c1, ob1, k1, k2, k3⟩ := hX.own m y h
      exact ⟨b1, c1, ob1, hraw _ _ k1, List.mem_cons_of_mem _ k2, k3.raw hraw⟩
/-! ### Acts -/
/-- A block that has been made early, ahead of an act that stands ahead of it. -/
def isEarly (l : List Oper) (S : Nat → DS) (D : Nat → Bool) (σ : Sg) (i : Nat) (p : Ent) : Prop := ∃ a op d, l[a]? = some op ∧ kind0 op.op = 3 ∧ i < a ∧ D a = true ∧ σ (S a).res = some (p.1, d)
open Classical in
noncomputable def earlyL (l : List Oper) (S : Nat → DS) (D : Nat → Bool) (σ : Sg) (i : Nat) (L : List Ent) : List Ent := L.filter fun p => !(!decide (isEarly l S D σ i p))
open Classical in
noncomputable def restL (l : List Oper) (S : Nat → DS) (D : Nat → Bool) (σ : Sg) (i : Nat) (L : List Ent) : List Ent := L.filter fun p => !decide (isEarly l S D σ i p)
theorem early_perm (i : Nat) (L : List Ent) : (restL l S D σ i L ++ earlyL l S D σ i L).Perm L := List.filter_append_perm _ L
theorem rest_mem {p : Ent} : p ∈ restL l S D σ i L ↔ p ∈ L ∧ ¬ isEarly l S D σ i p := by simp [restL]
theorem early_mem {p : Ent} : p ∈ earlyL l S D σ i L ↔ p ∈ L ∧ isEarly l S D σ i p := by simp [earlyL]
/-- What is known as an act begins. -/
theorem SPx.hr (hX : SPx n l σ0 nx R S D ρ L c σ nxc) (hT : Tr P n q ih dd l env0 h0 nx nx1 S) (hi : i ≤ l.length) (hci : c ≤ i) (hne : ∀ j o, c ≤ j → j < i → l[j]? = some o → kind0 o.op ≠ 2) (hnew : ∀ a op, l[a]? = some op → kind0 op.op = 3 → c ≤ a → a < i → D a = true) : HR σ nxc (S i).h (restL l S D σ i L) := by
  have cov : ∀ m x, get8 m (S i).h = some x → get8 m (S c).h = some x ∨ ∃ a op, l[a]? = some op ∧ kind0 op.op = 3 ∧ c ≤ a ∧ a < i ∧ (S a).res = m ∧ get8 m (S (a + 1)).h = some x := by
    have := hT.cover (c := c) (i - c) (by omega) (by rw [show c + (i - c) = i by omega]; exact hne)
    rwa [show c + (i - c) = i by omega] at this
  have toD : ∀ m x, get8 m (S i).h = some x → hD l S c D m x := fun m x h => by
    rcases cov m x h with h | ⟨a, op, g1, g2, g3, g4, g5, g6⟩
    · exact .inl h
    · exact .inr ⟨a, op, g1, g2, g3, hnew a op g1 g2 g3 g4, g5, g6⟩
  refine ⟨hX.fresh, fun m k x y b d d' h1 h2 => hX.inj m k x y b d d' (toD _ _ h1) (toD _ _ h2), fun m x h => ?_⟩
  obtain ⟨b, d, ob, k1, k2, k3⟩ := hX.own m x (toD _ _ h)
  refine ⟨b, d, ob, k1, rest_mem.2 ⟨k2, ?_⟩, k3⟩
  rintro ⟨a, op, d', g1, g2, g3, g4, g5⟩
  obtain ⟨_, y, g6⟩ := hX.made a op _ g1 g2 g5
  have e := hX.inj m (S a).res x y b d d' (toD _ _ h) (.inr ⟨a, op, g1, g2, by omega, g4, rfl, g6⟩) k1 g5
  rcases cov m x h with h | ⟨a', op', f1, f2, f3, f4, f5, f6⟩
  · rw [e, hX.early a op g1 g2 (by omega)] at h; cases h
  · have := hT.res_inj f1 g1 f2 g2 (by rw [f5, e]); omega
/-- Behind it. -/
theorem SPx.eff {x : Value} {σ' : Sg} {nx' : Nm} {L' : List Ent} (hX : SPx n l σ0 nx R S D ρ L c σ nxc) (hT : Tr P n q ih dd l env0 h0 nx nx1 S) (hR : R.val = nx.val + (news l).length) (ho : l[i]? = some o) (hk : kind0 o.op = 2) (hi : D i = false) (hci : c ≤ i) (hne : ∀ j o, c ≤ j → j < i → l[j]? = some o → kind0 o.op ≠ 2)
    (hle : Sg.le σ σ') (hH : HR σ' nx' (S (i + 1)).h L') (hp : ∃ pt, (S (i + 1)).past = ((S (i + 1)).h, nx') :: pt) (hnd : (keys (L' ++ earlyL l S D σ i L)).Nodup)
    (hx : ∀ d, o.dst = some d → d < n → d < 256 → ∀ v, get4 (slotK d) (S (i + 1)).env = some v → okV σ' v x) : SPx n l σ0 nx R S (addD i D) (updO ρ o.dst x) (L' ++ earlyL l S D σ i L) (i + 1) σ' nx' := by
  have hil := (List.getElem?_eq_some_iff.1 ho).1
  obtain ⟨yR, hyR⟩ := hX.dum
  have hup : ∀ m y, σ' m = some y → σ m = none → R.val < m.val := fun m y h1 h2 => hle.above m y h1 h2 R yR hyR
  have dis : ∀ p ∈ L', ∀ r ∈ earlyL l S D σ i L, p.1 ≠ r.1 := by
    unfold keys at hnd
    rw [List.map_append, List.nodup_append] at hnd
    intro p hp r hr e
    exact hnd.2.2 p.1 (List.mem_map.2 ⟨p, hp, rfl⟩) r.1 (List.mem_map.2 ⟨r, hr, rfl⟩) e
  have lo : ∀ a op, l[a]? = some op → kind0 op.op = 3 → ∀ y, σ' (S a).res = some y → σ (S a).res = some y := fun a op g1 g2 y h => by
    cases e : σ (S a).res with
    | none => have := hup _ _ h e; have := hT.res_lt g1 g2; omega
    | some z => rw [hle.keep _ _ e] at h; exact h
  have ear : ∀ a op x, l[a]? = some op → kind0 op.op = 3 → i < a → D a = true → get8 (S a).res (S (a + 1)).h = some x → ∃ b d ob, σ (S a).res = some (b, d) ∧ (b, ob) ∈ earlyL l S D σ i L ∧ OR σ d x ob := fun a op x g1 g2 g3 g4 g5 => by
    obtain ⟨b, d, ob, k1, k2, k3⟩ := hX.own _ x (.inr ⟨a, op, g1, g2, by omega, g4, rfl, g5⟩)
    exact ⟨b, d, ob, k1, early_mem.2 ⟨k2, a, op, d, g1, g2, g3, g4, k1⟩, k3⟩
  have key : ∀ m y, hD l S (i + 1) (addD i D) m y → (∃ b d ob, σ' m = some (b, d) ∧ (b, ob) ∈ L' ∧ OR σ' d y ob ∧ get8 m (S (i + 1)).h = some y) ∨ (∃ b d ob, σ m = some (b, d) ∧ (b, ob) ∈ earlyL l S D σ i L ∧ OR σ d y ob ∧ hD l S c D m y) := by
    rintro m y (h | ⟨a, op, g1, g2, g3, g4, g5, g6⟩)
    · obtain ⟨b, d, ob, k1, k2, k3⟩ := hH.own m y h
      exact .inl ⟨b, d, ob, k1, k2, k3, h⟩
    · have hai : a ≠ i := by omega
      rw [addD_ne D hai] at g4
      subst g5
      obtain ⟨b, d, ob, k1, k2, k3⟩ := ear a op y g1 g2 (by omega) g4 g6
      exact .inr ⟨b, d, ob, k1, k2, k3, .inr ⟨a, op, g1, g2, by omega, g4, rfl, g6⟩⟩
  refine ⟨by omega, fun j o' hj hk' => ?_, .inr ⟨i, o, rfl, ho, hk⟩, hp, slots_upd hT ho hle.keep hX.slots hx, fun m hm => ?_, fun a o' y ha hk' hs => ?_, ⟨yR, hle.keep _ _ hyR⟩, hH.fresh, fun a o' ha hk' hia => ?_, fun m k x y b d d' h1 h2 s1 s2 => ?_, fun m y h => ?_⟩
  · by_cases e : j = i
    · subst e; simp [addD]
    · rw [addD_ne D e, hX.cut j o' hj hk']
      refine ⟨fun h => by omega, fun h => ?_⟩
      cases Nat.lt_or_ge j c with
      | inl h => exact h
      | inr h2 => exact absurd hk' (hne j o' h2 (by omega) hj)
  · cases e : σ m with
    | some y => rw [← hX.low m hm, e]; exact hle.keep _ _ e
    | none =>
      rw [← hX.low m hm, e]
      cases e2 : σ' m with
      | none => rfl
      | some z => have := hup _ _ e2 e; omega
  · obtain ⟨g1, g2⟩ := hX.made a o' y ha hk' (lo a o' ha hk' y hs)
    exact ⟨by simp [addD, g1], g2⟩
  · cases e : get8 (S a).res (S (i + 1)).h with
    | none => rfl
    | some y =>
      exfalso
      obtain ⟨b, d, ob, k1, k2, _⟩ := hH.own _ y e
      have k3 := lo a o' ha hk' _ k1
      obtain ⟨k4, z, k5⟩ := hX.made a o' _ ha hk' k3
      obtain ⟨b', d', ob', k6, k7, _⟩ := ear a o' z ha hk' (by omega) k4 k5
      rw [k3] at k6; injection k6 with k6; injection k6 with e1 e2; subst e1
      exact dis _ k2 _ k7 rfl
  · rcases key _ _ h1 with ⟨b1, d1, ob1, a1, a2, a3, a4⟩ | ⟨b1, d1, ob1, a1, a2, a3, a4⟩
    · rcases key _ _ h2 with ⟨b2, d2, ob2, c1, c2, c3, c4⟩ | ⟨b2, d2, ob2, c1, c2, c3, c4⟩
      · exact hH.inj m k x y b d d' a4 c4 s1 s2
      · exfalso
        rw [a1] at s1; injection s1 with s1; injection s1 with e1 e2
        rw [hle.keep _ _ c1] at s2; injection s2 with s2; injection s2 with e3 e4
        exact dis _ a2 _ c2 (by simp only; rw [e1, e3])
    · rcases key _ _ h2 with ⟨b2, d2, ob2, c1, c2, c3, c4⟩ | ⟨b2, d2, ob2, c1, c2, c3, c4⟩
      · exfalso
        rw [c1] at s2; injection s2 with s2; injection s2 with e1 e2
        rw [hle.keep _ _ a1] at s1; injection s1 with s1; injection s1 with e3 e4
        exact dis _ c2 _ a2 (by simp only; rw [e1, e3])
      · rw [hle.keep _ _ a1] at s1; rw [hle.keep _ _ c1] at s2
        injection s1 with s1; injection s2 with s2
        exact hX.inj m k x y b d d' a4 c4 (by rw [a1, s1]) (by rw [c1, s2])
  · rcases key _ _ h with ⟨b1, d1, ob1, a1, a2, a3, _⟩ | ⟨b1, d1, ob1, a1, a2, a3, _⟩
    · exact ⟨b1, d1, ob1, a1, List.mem_append_left _ a2, a3⟩
    · exact ⟨b1, d1, ob1, hle.keep _ _ a1, List.mem_append_right _ a2, a3.mono hle⟩
end
end Go.Proofs.YtgmlbaffghogaaaGreatDoor
/-! EV, proved right, part 25: regions that draw their order, as a whole. -/
set_option linter.unusedVariables false
set_option linter.unusedSimpArgs false
namespace Go.Proofs.YtgmlbaffghogaaaGreatDoor
open Go.RowKit
def SPd (n : Nat) (l : List Oper) (σ0 : Sg) (nx R : Nm) (S : Nat → DS) (D : Nat → Bool) (ρ : Env) (L : List Ent) : Prop := ∃ c σ nxc, SPx n l σ0 nx R S D ρ L c σ nxc
def guardOps (l : List Oper) (o : Oper) : List Operand := match o.guard with | some (j, _) => (match (l[j]?).bind (·.dst) with | some d => [Operand.tmp d] | none => []) | none => []
theorem slotsB_ok {l : List Oper} {cl : List (List Nat)} (h : slotsB l cl = true) {i j : Nat} {o o' : Oper} {t : Nat} (ho : l[i]? = some o) (ht : Operand.tmp t ∈ o.op.operands.toList ++ guardOps l o) (hj : l[j]? = some o') (hd : o'.dst = some t) : j ∈ cl.getD i [] ∨ i ∈ bindsOn o' := by
  unfold slotsB at h
  have h1 := List.all_eq_true.1 h (o, i) (List.mk_mem_zipIdx_iff_getElem?.2 ho)
  have h2 := List.all_eq_true.1 h1 (.tmp t) ht
  have h3 := List.all_eq_true.1 h2 (o', j) (List.mk_mem_zipIdx_iff_getElem?.2 hj)
  simp only [Bool.or_eq_true, hd] at h3
  rcases h3 with (h3 | h3) | h3
  · simp at h3
  · exact .inl (by simpa using h3)
  · exact .inr (by simpa using h3)
section
variable {P : Program} {n : Nat} {q : Bool} {ih : Ih} {dd : List D} {l : List Oper} {env0 : En} {h0 : Hp} {nx nx1 R : Nm} {S : Nat → DS} {i : Nat} {o : Oper} {σ0 σ : Sg} {D : Nat → Bool} {ρ ρ0 : Env} {L : List Ent} {c : Nat} {nxc : Nm} {SP : (Nat → Bool) → Env → List Ent → Prop}
theorem reads_ok (hT : Tr P n q ih dd l env0 h0 nx nx1 S) (hE : ER σ0 n env0 ρ0) (hf : ∀ m : Nm, nx.val ≤ m.val → σ0 m = none) (hg : Stg l [] (clOf l []) SP ρ0 i o ρ L D) (hX : SPx n l σ0 nx R S D ρ L c σ nxc) (ho : l[i]? = some o)
    {t : Nat} (ht : Operand.tmp t ∈ o.op.operands.toList ++ guardOps l o) (h1 : t < n) (h2 : t < 256) {v : V} (hv : get4 (slotK t) (S i).env = some v) : okV σ v (ρ t) := by
  obtain ⟨p1, p2, p3, p4, p5, p6, p7⟩ := hT.parts
  have hi := (List.getElem?_eq_some_iff.1 ho).1
  have old : (∀ j o, j < i → l[j]? = some o → o.dst ≠ some t) → ρ t = ρ0 t → okV σ v (ρ t) := fun hw e => by
    have := hT.slot h2 (i := 0) i (by omega) (fun j o _ hj => hw j o (by omega))
    rw [Nat.zero_add] at this
    rw [this, hT.s0] at hv
    rw [e]
    exact okV_raw (hX.nd hf) (hE t v h1 h2 hv)
  by_cases hw : ∃ (j : Nat) (o' : Oper), l[j]? = some o' ∧ o'.dst = some t
  · obtain ⟨j, o', hj, hd⟩ := hw
    have uniq : ∀ k o2, l[k]? = some o2 → o2.dst = some t → k = j := fun k o2 hk hd2 => dstsB_inj p1 k j o2 o' t hk hj hd2 hd
    rcases slotsB_ok p6 ho ht hj hd with hcl | hb
    · have hji := cl_lt p3 p2 i hi j hcl
      have hDj := hg.low j hcl
      have := hT.slot h2 (i := j + 1) (i - (j + 1)) (by omega) (fun k o2 hk1 hk2 hk3 hd2 => by have := uniq k o2 hk3 hd2; omega)
      rw [show j + 1 + (i - (j + 1)) = i by omega] at this
      exact hX.slots j o' t hj hd hDj h1 h2 v (by rw [← this]; exact hv)
    · obtain ⟨e, he, hbd, hon⟩ := bindsOn_mem hb
      have hlt := backC_get p2 j o' hj e he hbd
      refine old (fun k o2 hk1 hk3 hd2 => ?_) (hg.old j o' t hj hd ⟨e, he, hbd, hon⟩)
      have := uniq k o2 hk3 hd2; omega
  · exact old (fun j o' _ hj hd => hw ⟨j, o', hj, hd⟩) (hg.fix t (fun o' hm hd => by obtain ⟨j, hj⟩ := List.mem_iff_getElem?.1 hm; exact hw ⟨j, o', hj, hd⟩))
theorem opsOk_slots {env : En} {ol : Array Operand} (h : ∀ t, Operand.tmp t ∈ ol → t < n → t < 256 → ∀ v, get4 (slotK t) env = some v → okV σ v (ρ t)) : OpsOk σ n env (evE n ρ) ol := by
  intro x hx v hv
  cases x with
  | tmp t =>
    have hv' : getA env (cond (slotB t n) (.s (slotK t)) .bad) = some v := hv
    cases hb : slotB t n with
    | false => rw [hb] at hv'; cases hv'
    | true =>
      rw [hb] at hv'
      have ht := slotB_ok hb
      show okV σ v (cond (Nat.blt t n) (ρ t) undef)
      rw [blt_true ht.1]
      exact h t hx ht.1 ht.2 v hv'
  | const c =>
    have hv' : getA env (match constV c with | some x => .k x | none => .bad) = some v := hv
    cases hc : constV c with
    | none => rw [hc] at hv'; cases hv'
    | some x => rw [hc] at hv'; injection hv' with hv'; subst hv'; exact constV_ok σ hc
  | func f => injection hv with hv; subst hv; exact okV_func σ f
  | global g => cases hv
theorem notDefer_of {o : Op} (h : noDefer o = true) : notDefer o = true := by cases o <;> first | rfl | exact h
/-- An operation that reads at most. -/
theorem quiet_rl {c : Cx} {K : Ko} {Qp : Po} {ds : Ds} {env env' : En} {hh h' : Hp} {nxx nx' : Nm} {ds' : List Go.Proofs.YtgmlbaffghogaaaGreatDoor.D} (hP : c.P = P) (hq : c.q = false) (hH : HR σ nxx hh L) (hE : OpsOk σ c.n env (evE c.n ρ) o.op.operands) (hG : GdOk σ c.n env ρ l o) (hqt : quietO o.op = true) (hd : noDefer o.op = true)
    (hr : opF P c.n q l o ih endK env hh nxx dd = .C .n env' h' nx' ds') (hK : ∀ v x, okV σ v x → env' = put (dstP c.n o.dst) v env → K (updO ρ o.dst x) ds L) : RL c l [o] K Qp ρ ds L := by
  rcases guard_split hG hr (fun n => by simp) with ⟨hw, h1⟩ | ⟨hw, h1⟩
  · obtain ⟨d, op, ty, pos, af, g⟩ := o
    have hD := opDoes (P := P) (w0 := c.w0) (B := c.S) (ty := ty) (pos := pos) (af := af) (g := g) (d := d) ⟨fun fv as ts e => (by have hqt' : quietO op = true := hqt; rw [show op = _ from e] at hqt'; cases hqt'), fun cl e => (by have hd' : noDefer op = true := hd; rw [show op = _ from e] at hd'; cases hd')⟩ hH hE h1 (fun n => by simp)
    subst hP
    refine RL.step hq hw (notDefer_of hd) fun w hst => ?_
    obtain ⟨σ', v, x, h'', nx'', w', L', _, g2, _, g4, g5, g6, g7⟩ := hD w hst
    obtain ⟨rfl, rfl, rfl⟩ := g7 hqt
    injection (show Rs.C .n (put (dstP c.n d) v env) h'' nx'' dd = _ from g4) with _ e1
    exact ⟨x, w', L', g5, g6, RL.nil (hK v x g2 e1.symm)⟩
  · injection (show Rs.C .n (put (dstP c.n o.dst) (.t []) env) hh nxx dd = _ from h1) with _ e1
    exact RL.skip hw (RL.nil (hK (.t []) undef ⟨[], trivial, rfl⟩ e1.symm))
theorem hr_noHp (hX : SPx n l σ0 nx R S D ρ L c σ nxc) : HR σ topN noHp L := by
  refine ⟨fun m hm => hX.fresh m ?_, fun m k x y b d d' h1 => ?_, fun m x h1 => ?_⟩
  · have : nxc.val ≤ topN.val := by
      rw [Nm.val_eq]
      have := nxc.lo.val_lt; have := nxc.hi.val_lt
      have e : topN.val = 65535 := rfl
      omega
    omega
  · rw [show get8 m noHp = none from get8_emp m none] at h1; cases h1
  · rw [show get8 m noHp = none from get8_emp m none] at h1; cases h1

theorem cut_lo (hT : Tr P n q ih dd l env0 h0 nx nx1 S) (hg : Stg l [] (clOf l []) SP ρ0 i o ρ L D) (hX : SPx n l σ0 nx R S D ρ L c σ nxc) (ho : l[i]? = some o) : (S i).ec ≤ (S c).ec + backN l (clOf l []) i := by
  have hi := (List.getElem?_eq_some_iff.1 ho).1
  rw [hT.ec i (by omega), hT.ec c hX.cle]
  unfold cntK backN
  rw [effs_eq, ← List.countP_eq_length_filter]
  refine countP_split (fun e he h => ?_)
  rw [Nat.blt_eq] at h
  obtain ⟨oe, h1, h2⟩ := sel_mem.1 he
  by_cases hc : e < c
  · exact .inl (blt_true hc)
  · refine .inr ?_
    rw [Bool.and_eq_true]
    refine ⟨blt_true h, ?_⟩
    cases hcl : ((clOf l []).getD i []).contains e with
    | false => rfl
    | true => exact absurd ((hX.cut e oe h1 h2).1 (hg.low e (by simpa using hcl))) hc
theorem cut_hi (hT : Tr P n q ih dd l env0 h0 nx nx1 S) (hg : Stg l [] (clOf l []) SP ρ0 i o ρ L D) (hX : SPx n l σ0 nx R S D ρ L c σ nxc) (ho : l[i]? = some o) (hk : kind0 o.op ≠ 2) : (S c).ec ≤ (S i).ec + fwdN l (clOf l []) i := by
  have hi := (List.getElem?_eq_some_iff.1 ho).1
  rw [hT.ec i (by omega), hT.ec c hX.cle]
  unfold cntK fwdN
  rw [effs_eq, ← List.countP_eq_length_filter]
  refine countP_split (fun e he h => ?_)
  rw [Nat.blt_eq] at h
  obtain ⟨oe, h1, h2⟩ := sel_mem.1 he
  have hDe := (hX.cut e oe h1 h2).2 h
  by_cases hc : e < i
  · exact .inl (blt_true hc)
  · refine .inr ?_
    have hne : e ≠ i := fun e2 => by subst e2; rw [ho] at h1; injection h1 with h1; subst h1; exact hk h2
    rw [Bool.and_eq_true]
    refine ⟨blt_true (by omega), ?_⟩
    cases hcl : ((clOf l []).getD e []).contains i with
    | false => rfl
    | true => have := hg.up e (List.getElem?_eq_some_iff.1 h1).1 (by simpa using hcl); rw [hDe] at this; cases this
/-- Acts come in the order of the text. -/
theorem cut_act (hT : Tr P n q ih dd l env0 h0 nx nx1 S) (hg : Stg l [] (clOf l []) SP ρ0 i o ρ L D) (hX : SPx n l σ0 nx R S D ρ L c σ nxc) (ho : l[i]? = some o) (hk : kind0 o.op = 2) : c ≤ i ∧ (∀ j o, c ≤ j → j < i → l[j]? = some o → kind0 o.op ≠ 2) ∧ (∀ a op, l[a]? = some op → kind0 op.op = 3 → c ≤ a → a < i → D a = true) := by
  obtain ⟨p1, p2, p3, p4, p5, p6, p7⟩ := hT.parts
  refine ⟨?_, fun j oj h1 h2 h3 h4 => ?_, fun a oa h1 h2 h3 h4 => ?_⟩
  · cases Nat.lt_or_ge i c with
    | inr h => exact h
    | inl h => have := (hX.cut i o ho hk).2 h; rw [hg.self] at this; cases this
  · obtain ⟨a, g1, g2, g3, g4⟩ := chain_prev (selI_sorted l 0) p4 i (sel_mem.2 ⟨o, ho, hk⟩) j (sel_mem.2 ⟨oj, h3, h4⟩) h2
    obtain ⟨oa, g5, g6⟩ := sel_mem.1 g1
    have := (hX.cut a oa g5 g6).1 (hg.low a g4)
    omega
  · have g1 := List.all_eq_true.1 p5 i (sel_mem.2 ⟨o, ho, hk⟩)
    have g2 := List.all_eq_true.1 g1 a (sel_mem.2 ⟨oa, h1, h2⟩)
    rw [blt_true h4] at g2
    exact hg.low a (by simpa using g2)
theorem cut_new (hT : Tr P n q ih dd l env0 h0 nx nx1 S) (hg : Stg l [] (clOf l []) SP ρ0 i o ρ L D) (hX : SPx n l σ0 nx R S D ρ L c σ nxc) (ho : l[i]? = some o) (hk : kind0 o.op = 3) : c ≤ i := by
  obtain ⟨p1, p2, p3, p4, p5, p6, p7⟩ := hT.parts
  cases Nat.lt_or_ge i c with
  | inr h => exact h
  | inl h =>
    rcases hX.cut0 with e | ⟨k, ok, e, h1, h2⟩
    · omega
    · have hik : i ≠ k := fun e2 => by subst e2; rw [ho] at h1; injection h1 with h1; subst h1; rw [hk] at h2; cases h2
      have g1 := List.all_eq_true.1 p5 k (sel_mem.2 ⟨ok, h1, h2⟩)
      have g2 := List.all_eq_true.1 g1 i (sel_mem.2 ⟨o, ho, hk⟩)
      rw [blt_true (show i < k by omega)] at g2
      have g3 := hg.up k (List.getElem?_eq_some_iff.1 h1).1 (by simpa using g2)
      rw [(hX.cut k ok h1 h2).2 (by omega)] at g3; cases g3
theorem stg_ok {c : Cx} {ds : Ds} {Qp : Po} (hO : OpSnd P ih) (hP : c.P = P) (hn : c.n = n) (hq : c.q = false) (hrd : RdOk c q) (hT : Tr P n q ih dd l env0 h0 nx nx1 S) (hR : R.val = nx.val + (news l).length) (hE : ER σ0 n env0 ρ0) (hf : ∀ m : Nm, nx.val ≤ m.val → σ0 m = none) (hds : All2 (DR σ0) dd ds) (ho : l[i]? = some o) :
    StgOk c l [] (clOf l []) (SPd n l σ0 nx R S) ρ0 ds Qp i o := by
  intro ρ L D hg
  obtain ⟨cc, σ, nxc, hX⟩ := hg.sp
  obtain ⟨p1, p2, p3, p4, p5, p6, p7⟩ := hT.parts
  subst hn
  have hil := (List.getElem?_eq_some_iff.1 ho).1
  have hnd : noDefer o.op = true := List.all_eq_true.1 p7 o (List.mem_of_getElem? ho)
  have hOps : OpsOk σ c.n (S i).env (evE c.n ρ) o.op.operands := opsOk_slots fun t ht h1 h2 v hv => reads_ok hT hE hf hg hX ho (List.mem_append_left _ (by simpa using ht)) h1 h2 hv
  have hG : GdOk σ c.n (S i).env ρ l o := fun j w d hgd hj h1 h2 v hv => reads_ok hT hE hf hg hX ho (List.mem_append_right _ (by unfold guardOps; rw [hgd]; simp only [hj]; exact List.mem_cons_self)) h1 h2 hv
  obtain ⟨pt, hpast⟩ := hX.past
  have fin : ∀ {σ' : Sg} {x : Value} {L' : List Ent} {c' : Nat} {nx' : Nm}, SPx c.n l σ0 nx R S (addD i D) (updO ρ o.dst x) L' c' σ' nx' → (ds = ds ∧ (∃ v, updO ρ o.dst x = updO ρ o.dst v ∧ (factAt [] i).holds v []) ∧ SPd c.n l σ0 nx R S (fun k => k == i || D k) (updO ρ o.dst x) L') :=
    fun {σ' x L' c' nx'} h => ⟨rfl, ⟨x, rfl, by simp [factAt, Fact.holds]⟩, c', σ', nx', h⟩
  rcases kind_cases o.op with hk | hk | hk | hk
  · obtain ⟨env', hh, nx', ds', g1, g2⟩ := hT.sp ho hk
    refine quiet_rl hP hq (hr_noHp hX) hOps hG (kind_quiet (.inl hk)) hnd g1 fun v x hv e => fin (σ' := σ) (c' := cc) (nx' := nxc) (hX.quiet hT ho (by rw [hk]; simp) (fun h => by rw [hk] at h; cases h) (fun d hd h1 h2 v' hv' => ?_))
    rw [g2] at hv'
    simp only [hd] at hv'
    rw [mrg_same h1 h2, e, hd, put_same h1 h2] at hv'
    injection hv' with hv'; subst hv'; exact hv
  · obtain ⟨env', env'', h', nx', ds', g1, g2, g3⟩ := hT.again_ok ho hk hX.cle hpast (cut_lo hT hg hX ho) (cut_hi hT hg hX ho (by rw [hk]; simp))
    have hH : HR σ nxc (S cc).h L := ⟨hX.fresh, fun m k x y b d d' a1 a2 => hX.inj m k x y b d d' (.inl a1) (.inl a2), fun m x a => hX.own m x (.inl a)⟩
    refine quiet_rl hP hq hH hOps hG (kind_quiet (.inr hk)) hnd g1 fun v x hv e => fin (σ' := σ) (c' := cc) (nx' := nxc) (hX.quiet hT ho (by rw [hk]; simp) (fun h => by rw [hk] at h; cases h) (fun d hd h1 h2 v' hv' => ?_))
    rw [g2, hd, mrg_same h1 h2] at hv'
    have g4 : get4 (slotK d) env' = get4 (slotK d) env'' := by
      rcases g3 with rfl | ⟨p, g3, g4⟩
      · rfl
      · rw [hd, dstP_some h1 h2] at g3; injection g3 with g3; subst g3; exact g4
    rw [← g4, e, hd, put_same h1 h2] at hv'
    injection hv' with hv'; subst hv'; exact hv
  · obtain ⟨hci, hne, hnew⟩ := cut_act hT hg hX ho hk
    obtain ⟨hp, nx2, pt2, env', h', nx', ds', g0, g1, g2⟩ := hT.se ho hk
    have hps : (S i).past = (S cc).past := by
      have := hT.pastS (i := cc) (i - cc) (by omega) (by rw [show cc + (i - cc) = i by omega]; exact hne)
      rwa [show cc + (i - cc) = i by omega] at this
    rw [hps, hpast] at g0
    injection g0 with g0; injection g0 with e1 e2; subst e2
    have hH := hX.hr hT (by omega) hci hne hnew
    have e3 : (S (i + 1)).h = h' := by rw [g2]
    have e4 : ∃ pt, (S (i + 1)).past = ((S (i + 1)).h, nx') :: pt := by rw [g2]; exact ⟨_, rfl⟩
    have hslot : ∀ {v : V} {x : Value} {σ' : Sg}, okV σ' v x → env' = put (dstP c.n o.dst) v (S i).env → ∀ d, o.dst = some d → d < c.n → d < 256 → ∀ v, get4 (slotK d) (S (i + 1)).env = some v → okV σ' v x := fun {v x σ'} hv e d hd h1 h2 v' hv' => by
      rw [g2] at hv'
      simp only [hd] at hv'
      rw [mrg_same h1 h2, e, hd, put_same h1 h2] at hv'
      injection hv' with hv'; subst hv'; exact hv
    refine RL.perm hq (early_perm (l := l) (S := S) (D := D) (σ := σ) i L) (RL.frame hq fun w hst => ?_)
    rcases guard_split hG g1 (fun n => by simp) with ⟨hw, k1⟩ | ⟨hw, k1⟩
    · refine hO ⟨c.P, c.rd, c.n, w, keys (restL l S D σ i L), c.q⟩ q l [] o _ _ ρ ds _ σ nxc (S i).h (S i).env endK dd _ hP hq (rdOk_frame hrd hst) hw hH (hds.mono (fun _ _ => DR.raw (hX.nd hf))) hOps k1 (fun n => by simp) ?_
      intro σ' v x h2 nx2 dd2 ds2 L2 z1 z2 z3 z4 z5 z6
      obtain ⟨rfl, rfl⟩ := z5 (notDefer_of hnd)
      injection (show Rs.C .n (put (dstP c.n o.dst) v (S i).env) h2 nx2 dd2 = _ from z6) with _ y1 y2 y3
      subst y2 y3
      exact RL.nil fun hndp => fin (hX.eff hT hR ho hk hg.self hci hne z1 (by rw [e3]; exact z3) e4 hndp (hslot z2 y1.symm))
    · injection (show Rs.C .n (put (dstP c.n o.dst) (.t []) (S i).env) (S i).h nxc dd = _ from k1) with _ y1 y2 y3
      subst y2 y3
      exact RL.skip hw (RL.nil fun hndp => fin (hX.eff hT hR ho hk hg.self hci hne (Sg.le.refl σ) (by rw [e3]; exact hH) e4 hndp (hslot (σ' := σ) (v := .t []) (x := undef) ⟨[], trivial, rfl⟩ y1.symm)))
  · obtain ⟨g0, env', h', nx', ds', res', g1, _, g2⟩ := hT.sn ho hk
    have hci := cut_new hT hg hX ho hk
    rcases guard_split hG g1 (fun n => by simp) with ⟨hw, k1⟩ | ⟨hw, k1⟩
    · have hnw : NewR P c.n (S i).env (S i).h (S i).res env' h' o := by
        obtain ⟨d, op, ty, pos, af, g⟩ := o
        exact newOp (kind_new hk) k1
      obtain ⟨v, X, y1, y2, y3⟩ := hnw
      subst hP
      obtain ⟨ob, cap, val, y4, y5, y6⟩ := (y3 σ (evE c.n ρ) hOps).ex
      refine RL.step hq hw (notDefer_of hnd) fun w hst => ⟨val w.heap.size, w.alloc ob, (w.heap.size, ob) :: L, .inl (y6 w), hst.alloc ob, RL.nil (fin (hX.new (X := X) (cap := cap) hT hR ho hk hg.self (by rw [g2]; simp only [y2]; exact get8_same _ _ _) (fun p hp e => by have := hst.lt hp; omega) y4 (fun d hd h1 h2 v' hv' => ?_)))⟩
      rw [g2] at hv'
      simp only [hd] at hv'
      rw [mrg_same h1 h2, y1, hd, put_same h1 h2] at hv'
      injection hv' with hv'; subst hv'; exact y5 _
    · injection (show Rs.C .n (put (dstP c.n o.dst) (.t []) (S i).env) (S i).h (S i).res dd = _ from k1) with _ y1 y2 y3
      refine RL.skip hw (RL.nil (fin (σ' := σ) (c' := cc) (nx' := nxc) (hX.quiet hT ho (by rw [hk]; simp) (fun _ => by rw [g2]; simp only [← y2]; exact g0) (fun d hd h1 h2 v' hv' => ?_))))
      rw [g2] at hv'
      simp only [hd] at hv'
      rw [mrg_same h1 h2, ← y1, hd, put_same h1 h2] at hv'
      injection hv' with hv'; subst hv'; exact ⟨[], trivial, rfl⟩
theorem sp_init (hT : Tr P n q ih dd l env0 h0 nx nx1 S) (hR : R.val = nx.val + (news l).length) (h1 : nx1.val = nx.val + (news l).length + 1) (hH : HR σ0 nx h0 L) (hDn : ∀ k, D k = false) : SPx n l σ0 nx R S D ρ L 0 (σ0.ext R (0, 0)) nx1 := by
  have hRn : σ0 R = none := hH.fresh R (by omega)
  have hraw := ext_raw hRn (0, 0)
  have e0 : (S 0).h = h0 := by rw [hT.s0]
  have only : ∀ m x, hD l S 0 D m x → get8 m h0 = some x := fun m x h => by
    rcases h with h | ⟨a, op, _, _, _, h, _⟩
    · rwa [e0] at h
    · rw [hDn] at h; cases h
  have hne : ∀ m x, get8 m h0 = some x → m ≠ R := fun m x h e => by
    obtain ⟨b, d, ob, k, _⟩ := hH.own m x h
    rw [e, hRn] at k; cases k
  refine ⟨Nat.zero_le _, fun j o _ _ => ⟨fun h => (by rw [hDn] at h; cases h), fun h => (by omega)⟩, .inl rfl, ⟨[], by rw [hT.s0]⟩, fun j o d _ _ h => (by rw [hDn] at h; cases h), fun m hm => Sg.ext_ne (fun e => (by subst e; omega)) _, fun a o x ha hk h => ?_, ⟨_, Sg.ext_same _ _⟩, fun m hm => ?_, fun a o ha hk _ => ?_, fun m k x y b d d' h2 h3 s1 s2 => ?_, fun m x h => ?_⟩
  · have := hT.res_lt ha hk
    rw [Sg.ext_ne (fun e => by rw [e] at this; omega), hH.fresh _ this.1] at h; cases h
  · rw [Sg.ext_ne (fun e => by subst e; omega)]; exact hH.fresh m (by omega)
  · rw [e0]
    cases e : get8 (S a).res h0 with
    | none => rfl
    | some y =>
      obtain ⟨b, d, ob, k, _⟩ := hH.own _ y e
      rw [hH.fresh _ (hT.res_lt ha hk).1] at k; cases k
  · have a1 := only _ _ h2
    have a2 := only _ _ h3
    rw [Sg.ext_ne (hne _ _ a1)] at s1; rw [Sg.ext_ne (hne _ _ a2)] at s2
    exact hH.inj m k x y b d d' a1 a2 s1 s2
  · obtain ⟨b, d, ob, k1, k2, k3⟩ := hH.own m x (only _ _ h)
    exact ⟨b, d, ob, hraw _ _ k1, k2, k3.raw hraw⟩
theorem drawSnd (hO : OpSnd P ih) (hm : P.follows .mixedOrders = true) : DrawSnd P ih := by
  intro n q id ops env h nx dd e env' h' nx' dd' hr c σ ρ ds L hP hn hq hrd hE hH hds
  unfold runR at hr
  obtain ⟨hdraw, hr⟩ := cond_ok hr (fun n => by simp)
  obtain ⟨nx1, g1, g2, g3⟩ := addN_ok hr (fun n => by simp)
  obtain ⟨R, hR⟩ := g3 (news ops).length (by omega)
  split at g2
  rotate_left
  · cases g2
  rename_i s hs
  split at g2
  rotate_left
  · cases g2
  rename_i hh nx2 pt hpast
  obtain ⟨hrecs, g4⟩ := cond_ok g2 (fun n => by simp)
  injection g4 with e1 e2 e3 e4 e5; subst e1 e2 e3 e4 e5
  obtain ⟨S, t1, t2, t3⟩ := trace _ _ _ hs
  have hZl : (zip3 (kinds ops (clOf ops [])) ops (trOps P n q ops ops) n).length = ops.length := zip3_len (kinds_len _ _) (trOps_len _)
  rw [hZl] at t2
  have hT : Tr P n q ih dd ops env h nx nx1 S := ⟨hdraw, t1, t3, by rw [t2]; exact hrecs⟩
  obtain ⟨p1, p2, p3, p4, p5, p6, p7⟩ := hT.parts
  have hRv : R.val = nx.val + (news ops).length := hR
  refine X.set (k := []) [] (clOf ops []) (SPd n ops σ nx R S) hq (by rw [hP]; exact hm) p1 p2 p3 (fun D hD => ⟨0, _, nx1, sp_init hT hRv (by omega) hH hD⟩) (allAt_of fun i o ho => ?_) ?_
  · rw [Nat.zero_add]
    exact stg_ok hO hP hn hq hrd hT hRv hE hH.fresh hds ho
  · rintro ρ' L' D hD _ hfix ⟨cc, σ', nxc, hX⟩
    refine ⟨L', List.Perm.refl _, L', List.Sublist.refl _, rfl, σ', ⟨hX.nd hH.fresh, fun m x h1 h2 k y h3 => ?_⟩, fun t v h1 h2 hv => ?_, ?_, hds.mono (fun _ _ => DR.raw (hX.nd hH.fresh))⟩
    · have hk := hH.top k y h3
      cases Nat.lt_or_ge m.val nx.val with
      | inr h => omega
      | inl h => rw [hX.low m h, h2] at h1; cases h1
    · by_cases hw : ∃ (j : Nat) (o' : Oper), ops[j]? = some o' ∧ o'.dst = some t
      · obtain ⟨j, o', hj, hd⟩ := hw
        have hjl := (List.getElem?_eq_some_iff.1 hj).1
        have := hT.slot h2 (i := j + 1) (ops.length - (j + 1)) (by omega) (fun k o2 hk1 hk2 hk3 hd2 => by have := dstsB_inj p1 k j o2 o' t hk3 hj hd2 hd; omega)
        rw [show j + 1 + (ops.length - (j + 1)) = ops.length by omega, t2, hv] at this
        exact hX.slots j o' t hj hd (hD j hjl) h1 h2 v this.symm
      · have := hT.slot h2 (i := 0) ops.length (by omega) (fun k o2 _ _ hk3 hd2 => hw ⟨k, o2, hk3, hd2⟩)
        rw [Nat.zero_add, t2, hv, t1] at this
        rw [hfix t (fun o' hm hd => by obtain ⟨j, hj⟩ := List.mem_iff_getElem?.1 hm; exact hw ⟨j, o', hj, hd⟩)]
        exact okV_raw (hX.nd hH.fresh) (hE t v h1 h2 this.symm)
    · have hne : ∀ j o, cc ≤ j → j < ops.length → ops[j]? = some o → kind0 o.op ≠ 2 := fun j o h1 h2 h3 h4 => by
        have := (hX.cut j o h3 h4).1 (hD j h2); omega
      have hH2 := hX.hr hT (Nat.le_refl _) hX.cle hne (fun a op _ _ _ ha => hD a ha)
      have hps : (S ops.length).past = (S cc).past := by
        have := hT.pastS (i := cc) (ops.length - cc) (by have := hX.cle; omega) (by rw [show cc + (ops.length - cc) = ops.length by have := hX.cle; omega]; exact hne)
        rwa [show cc + (ops.length - cc) = ops.length by have := hX.cle; omega] at this
      obtain ⟨pt2, hp2⟩ := hX.past
      rw [t2, hpast, hp2] at hps
      injection hps with hps; injection hps with _ e6; subst e6
      rw [t2] at hH2
      exact hH2.perm (fun p hp => (rest_mem.1 hp).1)
end
end Go.Proofs.YtgmlbaffghogaaaGreatDoor
