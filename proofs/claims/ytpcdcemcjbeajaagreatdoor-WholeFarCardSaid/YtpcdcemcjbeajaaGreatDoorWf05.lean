/- WholeFar: EvN. -/
import Derived.Laws.StructEq
import Derived.Test.YtpcdcemcjbeajaaGreatDoorWf04
set_option linter.unusedVariables false
set_option linter.unusedSimpArgs false
namespace Go.Proofs.YtpcdcemcjbeajaaGreatDoor
open Go.RowKit
def nilK : Nat → TypeDesc → Bool
  | 0, .pointer _ => true
  | 1, .func .. => true
  | 2, .slice _ => true
  | 3, .map .. => true
  | 4, .interface _ => true
  | _, _ => false
section
variable {P : Program} {w0 : World} {B : List Nat} {f : Operand → Value} {σ : Sg} {nx : Nm} {h : Hp} {L : List Ent} {n : Nat} {env : En} {k : Kt} {dd : List D} {r : Rs}
variable {d : Option Nat} {ty : TypeId} {pos : String} {af : Array Edge} {g : Option (Nat × Bool)} {ih : Ih} {x y z : Operand} {t t' : TypeId}
theorem okS_l {m : Nm} {o len c : Nat} {b : Bool} {v : Value} (h : okS σ (.l m o len c b) v) : ∃ a q, v = .slice (some a) len q := by
  obtain ⟨bb, cp, cc, h1, h2, _⟩ := okV_l (σ := σ) (show okV σ (.s (.l m o len c b)) v from h); exact ⟨_, _, h2⟩
theorem eqP_in (D : Nat) {κ : Nat} {dsc : TypeDesc} {a b : S} {va vb : Value} {p : Bool} (hu : P.underlying t = some dsc) (hk : nilK κ dsc = true) (he : eqP κ a b = some p) (ha : okS σ a va) (hb : okS σ b vb) : ∀ w, (Op.equalIn (D + 1) t va vb).run P w = .ok p w := by
  intro w
  unfold eqP at he
  split at he <;> first | (cases he; done) | skip
  all_goals (injection he with he; subst he)
  all_goals (cases dsc <;> first | (cases hk; done) | skip)
  · cases ha; cases hb; simp [Op.equalIn, run_underlying hu]
  · cases ha; obtain ⟨b1, c1, _, rfl⟩ := hb; simp [Op.equalIn, run_underlying hu]
  · cases hb; obtain ⟨b1, c1, _, rfl⟩ := ha; simp [Op.equalIn, run_underlying hu]
  · cases ha; cases hb; simp [Op.equalIn, run_underlying hu]
  · cases ha; obtain ⟨vs, _, rfl⟩ := hb; simp [Op.equalIn, run_underlying hu]
  · cases hb; obtain ⟨vs, _, rfl⟩ := ha; simp [Op.equalIn, run_underlying hu]
  · cases ha; cases hb; simp [Op.equalIn, run_underlying hu]
  · cases hb; obtain ⟨a1, q1, rfl⟩ := okS_l ha; simp [Op.equalIn, run_underlying hu]
  · cases ha; obtain ⟨a1, q1, rfl⟩ := okS_l hb; simp [Op.equalIn, run_underlying hu]
  · cases hb; obtain ⟨a1, q1, rfl⟩ := ha; simp [Op.equalIn, run_underlying hu]
  · cases ha; cases hb; simp [Op.equalIn, run_underlying hu]
  · cases hb; obtain ⟨b1, c1, _, rfl⟩ := ha; simp [Op.equalIn, run_underlying hu]
  · cases ha; cases hb; simp [Op.equalIn, run_underlying hu]
theorem eqP_ok {κ : Nat} {dsc : TypeDesc} {a b : S} {va vb : Value} {p : Bool} (hu : P.underlying t = some dsc) (hk : nilK κ dsc = true) (he : eqP κ a b = some p) (ha : okS σ a va) (hb : okS σ b vb) : ∀ w, (Op.equal t va vb).run P w = .ok p w := eqP_in 9999 hu hk he ha hb
def plainV : Value → Bool
  | .bool _ | .pointer _ | .slice .. | .map _ | .func .. | .nilFunc | .nilIface => true
  | _ => false
theorem bin_eq {va vb : Value} {p : Bool} (h1 : plainV va = true) (h2 : plainV vb = true) (he : ∀ w, (Op.equal t va vb).run P w = .ok p w) (w : World) : (binOp .eql t va vb).run P w = .ok (.bool p) w ∧ (binOp .neq t va vb).run P w = .ok (.bool (!p)) w := by
  cases va <;> (first | (cases h1; done) | skip) <;> cases vb <;> (first | (cases h2; done) | skip) <;> exact ⟨by simp [binOp, Sem.run_bind, he w], by simp [binOp, Sem.run_bind, he w]⟩
theorem eqG_ok (ne : Bool) {va vb : Value} (h1 : plainV va = true) (h2 : plainV vb = true) (hc : (isC x || isC y) = true ∨ va ≠ .nilIface) (w : World) : (eqGuard (if ne then .neq else .eql) t x y va vb).run P w = .ok () w := by
  by_cases hi : va = .nilIface ∧ vb = .nilIface
  · obtain ⟨rfl, rfl⟩ := hi
    rcases hc with hc | hc
    · cases ne <;> cases x <;> cases y <;> first | rfl | (cases hc; done)
    · exact absurd rfl hc
  · cases ne <;> cases va <;> (first | (cases h1; done) | skip) <;> cases vb <;> first | (cases h2; done) | rfl | exact absurd ⟨rfl, rfl⟩ hi
theorem neg1_eq (ne p : Bool) : neg1 ne p = if ne then !p else p := by cases ne <;> cases p <;> rfl
theorem run_eq {ne : Bool} {va vb : Value} {p : Bool} (hx : f x = va) (hy : f y = vb) (h1 : plainV va = true) (h2 : plainV vb = true) (hc : (isC x || isC y) = true ∨ va ≠ .nilIface) (he : ∀ w, (Op.equal t va vb).run P w = .ok p w) (w : World) :
    (execOp f ⟨d, .binOp (if ne then .neq else .eql) t x y t', ty, pos, af, g⟩).run P w = .ok (.value (.bool (neg1 ne p))) w := by
  rw [neg1_eq]
  have h3 := eqG_ok (P := P) ne (t := t) (x := x) (y := y) h1 h2 hc w
  have h4 := bin_eq (t := t) h1 h2 he w
  subst hx hy
  cases ne with
  | true => simp only [if_true] at h3 ⊢; simp only [execOp, Sem.run_bind, h3, Result.andThen_ok, h4.2, Sem.run_pure]
  | false => simp only [Bool.false_eq_true, if_false] at h3 ⊢; simp only [execOp, Sem.run_bind, h3, Result.andThen_ok, h4.1, Sem.run_pure]
theorem eqP_plain {κ : Nat} {a b : S} {va vb : Value} {p : Bool} (he : eqP κ a b = some p) (ha : okS σ a va) (hb : okS σ b vb) : plainV va = true ∧ plainV vb = true ∧ (κ ≠ 4 → va ≠ .nilIface) := by
  unfold eqP at he
  split at he <;> first | (cases he; done) | skip
  · cases ha; cases hb; exact ⟨rfl, rfl, fun _ h => by cases h⟩
  · cases ha; obtain ⟨b1, c1, _, rfl⟩ := hb; exact ⟨rfl, rfl, fun _ h => by cases h⟩
  · cases hb; obtain ⟨b1, c1, _, rfl⟩ := ha; exact ⟨rfl, rfl, fun _ h => by cases h⟩
  · cases ha; cases hb; exact ⟨rfl, rfl, fun _ h => by cases h⟩
  · cases ha; obtain ⟨vs, _, rfl⟩ := hb; exact ⟨rfl, rfl, fun _ h => by cases h⟩
  · cases hb; obtain ⟨vs, _, rfl⟩ := ha; exact ⟨rfl, rfl, fun _ h => by cases h⟩
  · cases ha; cases hb; exact ⟨rfl, rfl, fun _ h => by cases h⟩
  · cases hb; obtain ⟨a1, q1, rfl⟩ := okS_l ha; exact ⟨rfl, rfl, fun _ h => by cases h⟩
  · cases ha; obtain ⟨a1, q1, rfl⟩ := okS_l hb; exact ⟨rfl, rfl, fun _ h => by cases h⟩
  · cases hb; obtain ⟨a1, q1, rfl⟩ := ha; exact ⟨rfl, rfl, fun _ h => by cases h⟩
  · cases ha; cases hb; exact ⟨rfl, rfl, fun _ h => by cases h⟩
  · cases hb; obtain ⟨b1, c1, _, rfl⟩ := ha; exact ⟨rfl, rfl, fun _ h => by cases h⟩
  · cases ha; cases hb; exact ⟨rfl, rfl, fun h => absurd rfl h⟩
theorem does_eqP {κ : Nat} {dsc : TypeDesc} {ne : Bool} (hu : P.underlying t = some dsc) (hk : nilK κ dsc = true) (hc : κ = 4 → (isC x || isC y) = true) (hH : HR σ nx h L) (hE : OpsOk σ n env f #[x, y]) (hr : r_eqP (dstP n d) κ ne (trA n x) (trA n y) ih k env h nx dd = r) (hg : good r) : Dn P w0 B f σ L n k env dd r ⟨d, .binOp (if ne then .neq else .eql) t x y t', ty, pos, af, g⟩ := by
  obtain ⟨a, h1, h2⟩ := onS_ok hr hg
  obtain ⟨b, h3, h4⟩ := onS_ok h2 hg
  obtain ⟨p, h5, h6⟩ := onV_ok h4 hg
  have ha := hE x (by simp) _ h1
  have hb := hE y (by simp) _ h3
  obtain ⟨h7, h8, h9⟩ := eqP_plain (σ := σ) h5 ha hb
  have hc' : (isC x || isC y) = true ∨ f x ≠ .nilIface := by
    by_cases e : κ = 4
    · exact .inl (hc e)
    · exact .inr (h9 e)
  exact .val (v := .s (.b (neg1 ne p))) (x := .bool (neg1 ne p)) hH rfl h6 (fun w _ => run_eq rfl rfl h7 h8 hc' (eqP_ok hu hk h5 ha hb) w)
end
end Go.Proofs.YtpcdcemcjbeajaaGreatDoor
set_option linter.unusedVariables false
set_option linter.unusedSimpArgs false
namespace Go.Proofs.YtpcdcemcjbeajaaGreatDoor
open Go.RowKit
def leafK : Nat → TypeDesc → Bool
  | 0, .int _ => true
  | 1, .bool => true
  | 2, .string => true
  | _, _ => false
theorem bytes_beq (s t : ByteArray) : (s == t) = (s.data.toList == t.data.toList) := by
  obtain ⟨s⟩ := s
  obtain ⟨t⟩ := t
  show (s == t) = (s.toList == t.toList)
  by_cases h : s = t
  · subst h; simp
  · have h1 : (s == t) = false := by simpa using h
    have h2 : (s.toList == t.toList) = false := by
      simp only [beq_eq_false_iff_ne, ne_eq]
      exact fun e => h (Array.ext' e)
    rw [h1, h2]
section
variable {P : Program} {w0 : World} {B : List Nat} {f : Operand → Value} {σ : Sg} {nx : Nm} {h : Hp} {L : List Ent} {n : Nat} {env : En} {k : Kt} {dd : List D} {r : Rs}
variable {d : Option Nat} {ty : TypeId} {pos : String} {af : Array Edge} {g : Option (Nat × Bool)} {ih : Ih} {x y z : Operand} {t t' : TypeId}
theorem eqC_in (D : Nat) {κ : Nat} {dsc : TypeDesc} {a b : S} {va vb : Value} {p : Bool} (hu : P.underlying t = some dsc) (hk : leafK κ dsc = true) (he : eqC κ a b = some p) (ha : okS σ a va) (hb : okS σ b vb) : ∀ w, (Op.equalIn (D + 1) t va vb).run P w = .ok p w := by
  intro w
  unfold eqC at he
  split at he <;> first | (cases he; done) | skip
  all_goals (cases dsc <;> first | (cases hk; done) | skip)
  · rename_i i a' j b' kk
    cases ha; cases hb
    cases hq : Nat.beq (kcode i) (kcode j) with
    | false => rw [hq] at he; cases he
    | true =>
      rw [hq] at he
      injection he with he; subst he
      have := kcode_inj hq; subst this
      rw [eqI_eq]; simp [Op.equalIn, run_underlying hu]
  · rename_i a' b'
    cases ha; cases hb
    injection he with he; subst he
    cases a' <;> cases b' <;> simp [Op.equalIn, run_underlying hu, bnot]
  · rename_i a' b'
    cases ha; cases hb
    injection he with he; subst he
    rw [← bytes_beq]; simp [Op.equalIn, run_underlying hu]
theorem EqR.of_run {D : Nat} {va vb : Value} {p : Bool} (h : ∀ w, (Op.equalIn D t va vb).run P w = .ok p w) : EqR P D t va vb (p = true) := fun w => ⟨p, h w, Iff.rfl⟩
theorem EqR.run {D : Nat} {va vb : Value} {p : Bool} (h : EqR P D t va vb (p = true)) (w : World) : (Op.equalIn D t va vb).run P w = .ok p w := by
  obtain ⟨q, h1, h2⟩ := h w
  have : q = p := by cases q <;> cases p <;> simp_all
  rw [h1, this]
theorem eqL_nil (l m : List S) : eqL [] l m = some true := by cases l <;> cases m <;> rfl
theorem eqL_cons {κ : Nat} {κs : List Nat} {l m : List S} {p : Bool} (h : eqL (κ :: κs) l m = some p) : ∃ a l' b m' p1 p2, l = a :: l' ∧ m = b :: m' ∧ eqC κ a b = some p1 ∧ eqL κs l' m' = some p2 ∧ p = (p1 && p2) := by
  cases l with
  | nil => cases h
  | cons a l' =>
    cases m with
    | nil => cases h
    | cons b m' =>
      have h' : (match eqC κ a b, eqL κs l' m' with | some p, some q => some (cond p q false) | _, _ => none) = some p := h
      split at h'
      · rename_i p1 p2 h1 h2
        injection h' with h'
        exact ⟨a, l', b, m', p1, p2, rfl, rfl, h1, h2, by rw [← h']; cases p1 <;> rfl⟩
      · cases h'
theorem eqL_append : ∀ {κ1 κ2 : List Nat} {l m : List S} {p : Bool}, eqL (κ1 ++ κ2) l m = some p → ∃ p1 p2, eqL κ1 l m = some p1 ∧ eqL κ2 (l.drop κ1.length) (m.drop κ1.length) = some p2 ∧ p = (p1 && p2)
  | [], κ2, l, m, p, h => ⟨true, p, eqL_nil l m, by simpa using h, by simp⟩
  | κ :: κ1, κ2, l, m, p, h => by
    obtain ⟨a, l', b, m', p1, p2, rfl, rfl, h1, h2, rfl⟩ := eqL_cons h
    obtain ⟨q1, q2, h3, h4, rfl⟩ := eqL_append h2
    refine ⟨p1 && q1, q2, ?_, by simpa using h4, by rw [Bool.and_assoc]⟩
    show (match eqC κ a b, eqL κ1 l' m' with | some p, some q => some (cond p q false) | _, _ => none) = _
    rw [h1, h3]; cases p1 <;> rfl
theorem eqL_take : ∀ {κ : List Nat} {l m : List S} {p : Bool}, eqL κ l m = some p → eqL κ (l.take κ.length) (m.take κ.length) = some p
  | [], l, m, p, h => by rw [eqL_nil] at h ⊢; exact h
  | κ :: κs, l, m, p, h => by
    obtain ⟨a, l', b, m', p1, p2, rfl, rfl, h1, h2, rfl⟩ := eqL_cons h
    have := eqL_take h2
    show (match eqC κ a b, eqL κs (l'.take κs.length) (m'.take κs.length) with | some p, some q => some (cond p q false) | _, _ => none) = _
    rw [h1, this]; cases p1 <;> rfl
theorem part_s' (ha : aggT P t = some false) {xs : Array Value} {off : Nat} {v : Value} (hv : xs[off]? = some v) (w : World) : (part t xs off).run P w = .ok v w := by
  simp [part, Sem.run_bind, agg_of ha w, hv]
structure FlatOk (P : Program) (σ : Sg) (D : Nat) (t : TypeId) (κs : List Nat) : Prop where
  one : aggT P t = some false → ∃ κ, κs = [κ] ∧ ∀ a b va vb p, eqC κ a b = some p → okS σ a va → okS σ b vb → EqR P D t va vb (p = true)
  agg : aggT P t = some true → szT P t = some κs.length ∧ ∀ l m vs ws p, l.length = κs.length → m.length = κs.length → eqL κs l m = some p → All2 (okS σ) l vs → All2 (okS σ) m ws → EqR P D t (.agg vs.toArray) (.agg ws.toArray) (p = true)
  some : aggT P t = some true ∨ aggT P t = some false
theorem FlatOk.part {D : Nat} {κs : List Nat} (hF : FlatOk P σ D t κs) {off : Nat} {l m : List S} {vs ws : List Value} {p : Bool} (he : eqL κs (l.drop off) (m.drop off) = Option.some p) (hl : All2 (okS σ) l vs) (hm : All2 (okS σ) m ws) (h1 : off + κs.length ≤ l.length) (h2 : off + κs.length ≤ m.length) : PartR P D t vs.toArray ws.toArray off (p = true) := by
  rcases hF.some with ha | ha
  · obtain ⟨hs, hq⟩ := hF.agg ha
    have h3 := (hl.drop off).take κs.length
    have h4 := (hm.drop off).take κs.length
    exact ⟨_, _, part_a (aggT_of ha hs) (xs := vs.toArray) rfl, part_a (aggT_of ha hs) (xs := ws.toArray) rfl, by
      have := hq _ _ _ _ p (by simp; omega) (by simp; omega) (eqL_take he) h3 h4
      simpa using this⟩
  · obtain ⟨κ, rfl, hq⟩ := hF.one ha
    obtain ⟨a, l', b, m', p1, p2, e1, e2, h3, h4, rfl⟩ := eqL_cons he
    rw [eqL_nil] at h4; injection h4 with h4; subst h4
    have g1 : l[off]? = Option.some a := by have : (l.drop off)[0]? = Option.some a := by rw [e1]; rfl
                                            rwa [List.getElem?_drop] at this
    have g2 : m[off]? = Option.some b := by have : (m.drop off)[0]? = Option.some b := by rw [e2]; rfl
                                            rwa [List.getElem?_drop] at this
    obtain ⟨va, g3, g4⟩ := hl.get g1
    obtain ⟨vb, g5, g6⟩ := hm.get g2
    rw [Bool.and_true]
    exact ⟨va, vb, part_s' ha (by simpa using g3), part_s' ha (by simpa using g5), hq a b va vb p1 h3 g4 g6⟩
theorem flatF_ok {D : Nat} {rec : TypeId → Option (List Nat)} (hrec : ∀ t κs, rec t = some κs → FlatOk P σ D t κs) {l m : List S} {vs ws : List Value} (hl : All2 (okS σ) l vs) (hm : All2 (okS σ) m ws) :
    ∀ {fs : List Field} {pos : Nat} {κs : List Nat} {p : Bool}, flatF rec fs pos = some κs → eqL κs (l.drop pos) (m.drop pos) = some p → pos + κs.length ≤ l.length → pos + κs.length ≤ m.length → ∃ Q, FldsR P D vs.toArray ws.toArray fs Q ∧ (Q ↔ p = true)
  | [], pos, κs, p, h, he, _, _ => by
    injection h with h; subst h
    rw [eqL_nil] at he; injection he with he; subst he
    exact ⟨True, .nil, by simp⟩
  | fl :: fs, pos, κs, p, h, he, h1, h2 => by
    have h' : (match fl.name == "_", Nat.beq fl.offset pos, rec fl.type with
      | false, true, some l => (match flatF rec fs (pos + l.length) with | some r => some (l ++ r) | none => none)
      | _, _, _ => none) = some κs := h
    split at h'
    · rename_i kl e1 e2 e3
      split at h'
      · rename_i kr e4
        injection h' with h'; subst h'
        have e5 := Nat.eq_of_beq_eq_true e2
        obtain ⟨p1, p2, h3, h4, rfl⟩ := eqL_append he
        rw [List.drop_drop, List.drop_drop] at h4
        rw [List.length_append] at h1 h2
        obtain ⟨Q, hQ, hi⟩ := flatF_ok hrec hl hm e4 h4 (by omega) (by omega)
        subst e5
        exact ⟨_, .cons e1 ((hrec _ _ e3).part h3 hl hm (by omega) (by omega)) hQ, by rw [hi]; simp⟩
      · cases h'
    · cases h'
theorem repN_length (l : List Nat) : ∀ n, (repN l n).length = n * l.length
  | 0 => by simp [repN]
  | n + 1 => by simp only [repN, List.length_append, repN_length l n, Nat.add_mul]; omega
theorem repN_ok {κ : List Nat} {l m : List S} : ∀ {n pos : Nat} {p : Bool}, eqL (repN κ n) (l.drop pos) (m.drop pos) = some p → ∃ q : Nat → Bool, (∀ i, i < n → eqL κ (l.drop (pos + i * κ.length)) (m.drop (pos + i * κ.length)) = some (q i)) ∧ (p = true ↔ ∀ i, i < n → q i = true)
  | 0, pos, p, h => by
    have : p = true := by simp only [repN] at h; rw [eqL_nil] at h; injection h with h; exact h.symm
    exact ⟨fun _ => true, fun i hi => by omega, by simp [this]⟩
  | n + 1, pos, p, h => by
    obtain ⟨p1, p2, h1, h2, rfl⟩ := eqL_append (κ1 := κ) h
    rw [List.drop_drop, List.drop_drop] at h2
    obtain ⟨q, h3, h4⟩ := repN_ok h2
    refine ⟨fun i => match i with | 0 => p1 | i + 1 => q i, fun i hi => ?_, ?_⟩
    · cases i with
      | zero => simpa using h1
      | succ i =>
        have := h3 i (by omega)
        rw [show pos + (i + 1) * κ.length = pos + κ.length + i * κ.length by rw [Nat.add_mul]; omega]; exact this
    · rw [Bool.and_eq_true, h4]
      constructor
      · rintro ⟨h5, h6⟩ i hi
        cases i with
        | zero => exact h5
        | succ i => exact h6 i (by omega)
      · intro h5
        exact ⟨h5 0 (by omega), fun i hi => h5 (i + 1) (by omega)⟩
theorem flatK_ok (σ : Sg) : ∀ (q : Nat) (t : TypeId) (κs : List Nat), flatK P q t = some κs → ∀ D, q ≤ D → FlatOk P σ D t κs
  | 0, t, κs, h, _, _ => by cases h
  | q + 1, t, κs, h, D, hD => by
    obtain ⟨D, rfl⟩ : ∃ D', D = D' + 1 := ⟨D - 1, by omega⟩
    unfold flatK at h
    have leaf : ∀ (κ : Nat) (dsc : TypeDesc), P.underlying t = some dsc → leafK κ dsc = true → isAggD dsc = false → FlatOk P σ (D + 1) t [κ] := fun κ dsc hu hk ha => by
      have e : aggT P t = some false := by unfold aggT; rw [hu]; simp [ha]
      exact ⟨fun _ => ⟨κ, rfl, fun a b va vb p he h1 h2 => .of_run (eqC_in D hu hk he h1 h2)⟩, (fun h => by rw [e] at h; cases h), .inr e⟩
    split at h
    · rename_i kk hu; injection h with h; subst h; exact leaf 0 _ hu rfl rfl
    · rename_i hu; injection h with h; subst h; exact leaf 1 _ hu rfl rfl
    · rename_i hu; injection h with h; subst h; exact leaf 2 _ hu rfl rfl
    · rename_i fs hu
      have e : aggT P t = some true := by unfold aggT; rw [hu]; rfl
      split at h
      · rename_i l e1 e2
        split at h
        · rename_i s e3
          cases hs : Nat.beq s l.length with
          | false => rw [hs] at h; cases h
          | true =>
            rw [hs] at h; injection h with h; subst h
            have := Nat.eq_of_beq_eq_true hs; subst this
            refine ⟨(fun h => by rw [e] at h; cases h), fun _ => ⟨e3, fun l m vs ws p h1 h2 he hl hm => ?_⟩, .inl e⟩
            obtain ⟨Q, hQ, hi⟩ := flatF_ok (D := D) (fun t κs ht => flatK_ok σ q t κs ht D (by omega)) hl hm e2 (pos := 0) (p := p) (by simpa using he) (by omega) (by omega)
            exact (EqR.struct hu e1 hQ).congr hi
        · cases h
      · cases h
    · rename_i nn e0 hu
      have e : aggT P t = some true := by unfold aggT; rw [hu]; rfl
      split at h
      · rename_i l s s' e1 e2 e3
        cases hs : (Nat.beq s (nn * s') && Nat.beq s' l.length) with
        | false => rw [hs] at h; cases h
        | true =>
          rw [hs] at h; injection h with h; subst h
          rw [Bool.and_eq_true] at hs
          have h5 := Nat.eq_of_beq_eq_true hs.1
          have h6 := Nat.eq_of_beq_eq_true hs.2
          refine ⟨(fun h => by rw [e] at h; cases h), fun _ => ⟨by rw [repN_length, ← h6, ← h5]; exact e2, fun l' m vs ws p h1 h2 he hl hm => ?_⟩, .inl e⟩
          obtain ⟨qq, h7, h8⟩ := repN_ok (pos := 0) (p := p) (by simpa using he)
          rw [repN_length] at h1 h2
          have hF := flatK_ok σ q e0 l e1 D (by omega)
          obtain ⟨i, hi⟩ : ∃ i, P.info? e0 = some i := by
            unfold szT at e3; split at e3
            · rename_i i hi; exact ⟨i, hi⟩
            · cases e3
          have hc : P.cellsOf e0 = l.length := by
            unfold szT at e3; rw [hi] at e3; injection e3 with e3
            simp [Program.cellsOf, hi, e3, h6]
          refine (EqR.array (p := fun i => qq i = true) hu hi hc (fun j hj => ?_)).congr h8.symm
          have hle : (j + 1) * l.length ≤ nn * l.length := Nat.mul_le_mul_right _ hj
          rw [Nat.add_mul] at hle
          exact hF.part (by simpa using h7 j hj) hl hm (by omega) (by omega)
      · cases h
    · cases h
end
end Go.Proofs.YtpcdcemcjbeajaaGreatDoor
set_option linter.unusedVariables false
set_option linter.unusedSimpArgs false
namespace Go.Proofs.YtpcdcemcjbeajaaGreatDoor
open Go.RowKit
section
variable {P : Program} {w0 : World} {B : List Nat} {f : Operand → Value} {σ : Sg} {nx : Nm} {h : Hp} {L : List Ent} {n : Nat} {env : En} {k : Kt} {dd : List D} {r : Rs}
variable {d : Option Nat} {ty : TypeId} {pos : String} {af : Array Edge} {g : Option (Nat × Bool)} {ih : Ih} {x y z : Operand} {t t' : TypeId}
theorem does_eqB {ne : Bool} (hu : P.underlying t = some .bool) (hH : HR σ nx h L) (hE : OpsOk σ n env f #[x, y]) (hr : r_eqS (dstP n d) 1 ne (trA n x) (trA n y) ih k env h nx dd = r) (hg : good r) : Dn P w0 B f σ L n k env dd r ⟨d, .binOp (if ne then .neq else .eql) t x y t', ty, pos, af, g⟩ := by
  obtain ⟨a, h1, h2⟩ := onS_ok hr hg
  obtain ⟨b, h3, h4⟩ := onS_ok h2 hg
  obtain ⟨p, h5, h6⟩ := onV_ok h4 hg
  have ha : okS σ a (f x) := hE x (by simp) _ h1
  have hb : okS σ b (f y) := hE y (by simp) _ h3
  have he := eqC_in (σ := σ) 9999 hu rfl h5 ha hb
  have hpl : plainV (f x) = true ∧ plainV (f y) = true ∧ f x ≠ .nilIface := by
    unfold eqC at h5
    split at h5 <;> first | (cases h5; done) | (exfalso; omega) | skip
    rw [show f x = _ from ha, show f y = _ from hb]; exact ⟨rfl, rfl, by simp⟩
  exact .val (v := .s (.b (neg1 ne p))) (x := .bool (neg1 ne p)) hH rfl h6 (fun w _ => run_eq rfl rfl hpl.1 hpl.2.1 (.inr hpl.2.2) he w)
theorem does_eqT {ne : Bool} (hH : HR σ nx h L) (hE : OpsOk σ n env f #[x, y]) (hr : r_eqS (dstP n d) 2 ne (trA n x) (trA n y) ih k env h nx dd = r) (hg : good r) : Dn P w0 B f σ L n k env dd r ⟨d, .binOp (if ne then .neq else .eql) t x y t', ty, pos, af, g⟩ := by
  obtain ⟨a, h1, h2⟩ := onS_ok hr hg
  obtain ⟨b, h3, h4⟩ := onS_ok h2 hg
  obtain ⟨p, h5, h6⟩ := onV_ok h4 hg
  have ha : okS σ a (f x) := hE x (by simp) _ h1
  have hb : okS σ b (f y) := hE y (by simp) _ h3
  unfold eqC at h5
  split at h5 <;> first | (cases h5; done) | (exfalso; omega) | skip
  · rename_i s u _
    injection h5 with h5; subst h5
    have hx : f x = .string s := ha
    have hy : f y = .string u := hb
    refine .val (v := .s (.b (neg1 ne _))) (x := .bool (neg1 ne _)) hH rfl h6 (fun w _ => ?_)
    rw [neg1_eq]
    have hb : (s.toList == u.toList) = (s.data.toList == u.data.toList) := by
      rw [ByteArray.toList_eq s, ByteArray.toList_eq u]
    cases ne with
    | true => simp [execOp, hx, hy, Sem.run_bind, eqGuard, binOp, Op.stringOp, hb]
    | false => simp [execOp, hx, hy, Sem.run_bind, eqGuard, binOp, Op.stringOp, hb]
theorem does_eqA {ne : Bool} {q : Nat} {κs : List Nat} (hk : flatK P q t = some κs) (hq : q ≤ 10000) (ha : aggT P t = some true) (hgt : P.eqGuardType P.depth t = false) (hH : HR σ nx h L) (hE : OpsOk σ n env f #[x, y]) (hr : r_eqA (dstP n d) κs ne (trA n x) (trA n y) ih k env h nx dd = r) (hg : good r) : Dn P w0 B f σ L n k env dd r ⟨d, .binOp (if ne then .neq else .eql) t x y t', ty, pos, af, g⟩ := by
  obtain ⟨a, h1, h2⟩ := onA_ok hr hg
  obtain ⟨b, h3, h4⟩ := onA_ok h2 hg
  obtain ⟨hb, h4⟩ := cond_ok h4 hg
  rw [Bool.and_eq_true] at hb
  have h11 := lenIs_ok hb.1
  have h12 := lenIs_ok hb.2
  obtain ⟨p, h5, h6⟩ := onV_ok h4 hg
  obtain ⟨vs, h7, h8⟩ := okV_a (hE x (by simp) _ h1)
  obtain ⟨ws, h9, h10⟩ := okV_a (hE y (by simp) _ h3)
  have he := EqR.run (((flatK_ok σ q t κs hk 10000 hq).agg ha).2 a b vs ws p h11 h12 h5 h7 h9)
  refine .val (v := .s (.b (neg1 ne p))) (x := .bool (neg1 ne p)) hH rfl h6 (fun w _ => ?_)
  rw [neg1_eq]
  cases ne with
  | true => simp only [if_true, execOp, h8, h10, Sem.run_bind, run_eqGuard_agg w .neq t x y _ _ hgt, Result.andThen_ok, run_neq_struct, he, Sem.run_pure]
  | false => simp only [Bool.false_eq_true, if_false, execOp, h8, h10, Sem.run_bind, run_eqGuard_agg w .eql t x y _ _ hgt, Result.andThen_ok, run_eql_struct, he, Sem.run_pure]
def lenK : Nat → TypeDesc → Bool
  | 0, .slice _ => true
  | 1, .map .. => true
  | 2, .string => true
  | _, _ => false
theorem obind {α β : Type} {x : Option α} {f : α → Option β} {b : β} (h : x.bind f = some b) : ∃ a, x = some a ∧ f a = some b := by
  cases x with
  | none => cases h
  | some a => exact ⟨a, rfl, h⟩
theorem getObj_ok {b : Nat} {o : Obj} {w : World} (hb : w.heap[b]? = some o) (hc : ∀ c e q, o ≠ .cells c e q) : (getObj b).run P w = .ok o w := by
  cases o <;> first | exact absurd rfl (hc _ _ _) | simp [getObj, Sem.run, hb]
theorem does_len {κ : Nat} {dsc : TypeDesc} {ts : Array TypeId} (ht : ts[0]? = some t) (hu : P.underlying t = some dsc) (hd : lenK κ dsc = true) (hH : HR σ nx h L) (hE : OpsOk σ n env f #[x]) (hr : r_len (dstP n d) κ (trA n x) ih k env h nx dd = r) (hg : good r) : Dn P w0 B f σ L n k env dd r ⟨d, .call ⟨.builtin .len, #[x], ts⟩, ty, pos, af, g⟩ := by
  obtain ⟨m, h1, h2⟩ := onV_ok hr hg
  obtain ⟨v, h3, h4⟩ := obind h1
  have hx := hE x (by simp) _ h3
  refine .val (v := .s (.i .i64 (.ofNat m))) (x := .int .i64 (m : Int)) hH rfl h2 (fun w hw => ?_)
  unfold lenV at h4
  split at h4 <;> first | (cases h4; done) | skip
  all_goals (cases dsc <;> first | (cases hd; done) | skip)
  · injection h4 with h4; subst h4
    obtain ⟨a, q, hs⟩ := okS_l (show okS σ _ _ from hx)
    simp [execOp, resolve, invoke, builtin, Builtin.len_, ht, hs, Sem.run_bind, run_underlying hu, goInt]
  · injection h4 with h4; subst h4
    have hs : f x = .slice none 0 0 := hx
    simp [execOp, resolve, invoke, builtin, Builtin.len_, ht, hs, Sem.run_bind, run_underlying hu, goInt]
  · injection h4 with h4; subst h4
    obtain ⟨a, q, hs⟩ := (show okX σ .se _ from hx)
    simp [execOp, resolve, invoke, builtin, Builtin.len_, ht, hs, Sem.run_bind, run_underlying hu, goInt]
  · injection h4 with h4; subst h4
    have hs : f x = .map none := hx
    simp [execOp, resolve, invoke, builtin, Builtin.len_, ht, hs, Sem.run_bind, run_underlying hu, goInt]
  · split at h4
    · rename_i es clk h5
      injection h4 with h4; subst h4
      obtain ⟨b, c, h6, hs⟩ := (show okX σ (.m _) _ from hx)
      obtain ⟨b', c', ob, h7, h8, l, h9, rfl⟩ := hH.own _ _ h5
      rw [h6] at h7; injection h7 with h7; injection h7 with e1 e2; subst e1
      have hb := hw.own _ h8
      simp only at hb
      have hl := h9.length
      simp [execOp, resolve, invoke, builtin, Builtin.len_, ht, hs, Sem.run_bind, run_underlying hu, goInt, getObj_ok hb (by simp), hl]
    · cases h4
  · injection h4 with h4; subst h4
    have hs : f x = .string _ := hx
    simp [execOp, resolve, invoke, builtin, Builtin.len_, ht, hs, Sem.run_bind, run_underlying hu, goInt]
theorem does_cap {e : TypeId} {ts : Array TypeId} (ht : ts[0]? = some t) (hu : P.underlying t = some (.slice e)) (hH : HR σ nx h L) (hE : OpsOk σ n env f #[x]) (hr : r_cap (dstP n d) (trA n x) ih k env h nx dd = r) (hg : good r) : Dn P w0 B f σ L n k env dd r ⟨d, .call ⟨.builtin .cap, #[x], ts⟩, ty, pos, af, g⟩ := by
  obtain ⟨m, h1, h2⟩ := onV_ok hr hg
  obtain ⟨v, h3, h4⟩ := obind h1
  have hx := hE x (by simp) _ h3
  refine .val (v := .s (.i .i64 (.ofNat m))) (x := .int .i64 (m : Int)) hH rfl h2 (fun w hw => ?_)
  unfold capS at h4
  split at h4
  · injection h4 with h4; subst h4
    obtain ⟨bb, cp, cc, _, hs, h5, _⟩ := okV_l hx
    have := h5 rfl; subst this
    simp [execOp, resolve, invoke, builtin, Builtin.cap_, ht, hs, Sem.run_bind, run_underlying hu, goInt]
  · injection h4 with h4; subst h4
    have hs : f x = .slice none 0 0 := hx
    simp [execOp, resolve, invoke, builtin, Builtin.cap_, ht, hs, Sem.run_bind, run_underlying hu, goInt]
  · cases h4
theorem does_constLen {e q : Nat} {ts : Array TypeId} (ht : ts[0]? = some t) (hu : P.underlying t = some (.array q e)) (hH : HR σ nx h L) (hr : r_const (dstP n d) (.s (.i .i64 (.ofNat q))) ih k env h nx dd = r) : Dn P w0 B f σ L n k env dd r ⟨d, .call ⟨.builtin .len, #[x], ts⟩, ty, pos, af, g⟩ :=
  .val (v := .s (.i .i64 (.ofNat q))) (x := .int .i64 (q : Int)) hH rfl hr (fun w hw => by simp [execOp, resolve, invoke, builtin, Builtin.len_, ht, Sem.run_bind, run_underlying hu, goInt])
theorem bnd_ok {a : Option Operand} {m : Option Nat} (hE : ∀ x ∈ a, ∀ v, getA env (trA n x) = some v → okV σ v (f x)) (hb : bnd env (trO n a) = some m) : (m = none ∧ a.map f = none) ∨ ∃ q kk, m = some q ∧ a.map f = some (.int kk (q : Int)) := by
  cases a with
  | none => injection hb with hb; exact .inl ⟨hb.symm, rfl⟩
  | some x =>
    have hb' : (match getA env (trA n x) with | some (.s (.i _ (.ofNat n))) => some (some n) | _ => none) = some m := hb
    split at hb'
    · rename_i kk q h1
      injection hb' with hb'
      exact .inr ⟨q, kk, hb'.symm, by simp; exact hE x rfl _ h1⟩
    · cases hb'
theorem run_bounds {isS : Bool} {len cap l e m : Nat} {lo hi mx : Option Value} {ol oh om : Option Nat} (h1 : (ol = none ∧ lo = none) ∨ ∃ q kk, ol = some q ∧ lo = some (.int kk (q : Int))) (h2 : (oh = none ∧ hi = none) ∨ ∃ q kk, oh = some q ∧ hi = some (.int kk (q : Int))) (h3 : (om = none ∧ mx = none) ∨ ∃ q kk, om = some q ∧ mx = some (.int kk (q : Int)))
    (hl : l = ol.getD 0) (he : e = oh.getD len) (hm : m = om.getD cap) (hmx : om = none ∨ oh ≠ none) (hle : l ≤ e) (hem : e ≤ m) (hmc : m ≤ cap) (w : World) : (Instr.sliceBounds isS len cap lo hi mx).run P w = .ok (l, e, m) w := by
  subst hl he hm
  rcases h3 with ⟨rfl, rfl⟩ | ⟨q3, k3, rfl, rfl⟩ <;> rcases h2 with ⟨rfl, rfl⟩ | ⟨q2, k2, rfl, rfl⟩ <;> rcases h1 with ⟨rfl, rfl⟩ | ⟨q1, k1, rfl, rfl⟩ <;> simp at hle hem hmc hmx <;> simp [Instr.sliceBounds, Instr.sliceBound, asIntOf, Sem.run_bind, hle, hem, hmc]
theorem does_slA {len e sz : Nat} {lo hi mx : Option Operand} (hu : P.underlying t = some (.array len e)) (hs : szT P e = some sz) (hmx : mx = none ∨ hi ≠ none) (hH : HR σ nx h L) (hE : OpsOk σ n env f (#[x] ++ lo.toArray ++ hi.toArray ++ mx.toArray)) (hr : r_slA (dstP n d) len sz (trA n x) (trO n lo) (trO n hi) (trO n mx) ih k env h nx dd = r) (hg : good r) : Dn P w0 B f σ L n k env dd r ⟨d, .slice t x lo hi mx, ty, pos, af, g⟩ := by
  obtain ⟨ol, h1, h2⟩ := onV_ok hr hg
  obtain ⟨oh, h3, h4⟩ := onV_ok h2 hg
  obtain ⟨om, h5, h6⟩ := onV_ok h4 hg
  obtain ⟨m, o, h7, h8⟩ := onP_ok h6 hg
  obtain ⟨h9, h10⟩ := cond_ok h8 hg
  rw [Bool.and_eq_true, Bool.and_eq_true] at h9
  have g1 := Nat.le_of_ble_eq_true h9.1.1
  have g2 := Nat.le_of_ble_eq_true h9.1.2
  have g3 := Nat.le_of_ble_eq_true h9.2
  obtain ⟨b, c, h11, h12⟩ := okV_p (hE x (by simp) _ h7)
  have b1 := bnd_ok (σ := σ) (f := f) (a := lo) (fun z hz => hE z (by cases lo <;> simp_all)) h1
  have b2 := bnd_ok (σ := σ) (f := f) (a := hi) (fun z hz => hE z (by cases hi <;> simp_all)) h3
  have b3 := bnd_ok (σ := σ) (f := f) (a := mx) (fun z hz => hE z (by cases mx <;> simp_all)) h5
  have hmx' : om = none ∨ oh ≠ none := by
    rcases hmx with rfl | hmx
    · rcases b3 with ⟨rfl, _⟩ | ⟨q, kk, _, hq⟩
      · exact .inl rfl
      · cases hq
    · refine .inr (fun e => ?_)
      rcases b2 with ⟨_, hq⟩ | ⟨q, kk, hq, _⟩
      · cases hi
        · exact hmx rfl
        · cases hq
      · rw [e] at hq; cases hq
  have hrun := run_bounds (P := P) (isS := false) (len := len) (cap := len) b1 b2 b3 rfl rfl rfl hmx' g1 g2 g3
  have hsz := size_of_szT (P := P) hs
  refine .val (v := .s (.l m (cond (Nat.beq (om.getD len) (ol.getD 0)) o (o + ol.getD 0 * sz)) (oh.getD len - ol.getD 0) (om.getD len - ol.getD 0) false)) (x := .slice (some ⟨b, cond (Nat.beq (om.getD len) (ol.getD 0)) o (o + ol.getD 0 * sz), none⟩) (oh.getD len - ol.getD 0) (om.getD len - ol.getD 0)) hH ⟨b, c, h11, rfl⟩ h10 (fun w _ => ?_)
  by_cases hq : om.getD len = ol.getD 0
  · have hq' : Nat.beq (om.getD len) (ol.getD 0) = true := by rw [hq]; simp
    simp only [hq', cond_true]
    simp [execOp, h12, Instr.sliceAt, Instr.sureAddr, Sem.run_bind, run_underlying hu, hrun, hsz, hq]
  · rw [beq_ne hq]
    simp [execOp, h12, Instr.sliceAt, Instr.sureAddr, Sem.run_bind, run_underlying hu, hrun, hsz, hq, addr_add]
theorem room_ok {m sz q : Nat} {nm : Nm} {b cc : Nat} (hH : HR σ nx h L) (hn : σ nm = some (b, cc)) (hr : room sz q (get8 nm h) = true) : q ≤ cc := by
  unfold room at hr
  split at hr
  · rename_i tt rr nn ks h1
    rw [Bool.and_eq_true, Bool.and_eq_true] at hr
    have e1 := Nat.eq_of_beq_eq_true hr.1.1
    have e2 := Nat.le_of_ble_eq_true hr.1.2
    have e3 := blt_lt hr.2
    obtain ⟨b', c', vs, junk, h2, h3, h4, h5⟩ := cells_of hH h1
    rw [hn] at h2; injection h2 with h2; injection h2 with e4 e5; subst e5
    obtain ⟨h6, h7⟩ := h5.1 (by omega)
    have h8 := h4.length
    have : nn * rr ≤ cc * rr := by omega
    have := Nat.le_of_mul_le_mul_right this (by omega)
    omega
  · cases hr
theorem does_slS {e sz : Nat} {lo hi mx : Option Operand} (hu : P.underlying t = some (.slice e)) (hs : szT P e = some sz) (hmx : mx = none ∨ hi ≠ none) (hH : HR σ nx h L) (hE : OpsOk σ n env f (#[x] ++ lo.toArray ++ hi.toArray ++ mx.toArray)) (hr : r_slS (dstP n d) sz (trA n x) (trO n lo) (trO n hi) (trO n mx) ih k env h nx dd = r) (hg : good r) : Dn P w0 B f σ L n k env dd r ⟨d, .slice t x lo hi mx, ty, pos, af, g⟩ := by
  obtain ⟨ol, h1, h2⟩ := onV_ok hr hg
  obtain ⟨oh, h3, h4⟩ := onV_ok h2 hg
  obtain ⟨om, h5, h6⟩ := onV_ok h4 hg
  have b1 := bnd_ok (σ := σ) (f := f) (a := lo) (fun z hz => hE z (by cases lo <;> simp_all)) h1
  have b2 := bnd_ok (σ := σ) (f := f) (a := hi) (fun z hz => hE z (by cases hi <;> simp_all)) h3
  have b3 := bnd_ok (σ := σ) (f := f) (a := mx) (fun z hz => hE z (by cases mx <;> simp_all)) h5
  have hmx' : om = none ∨ oh ≠ none := by
    rcases hmx with rfl | hmx
    · rcases b3 with ⟨rfl, _⟩ | ⟨q, kk, _, hq⟩
      · exact .inl rfl
      · cases hq
    · refine .inr (fun e => ?_)
      rcases b2 with ⟨_, hq⟩ | ⟨q, kk, hq, _⟩
      · cases hi
        · exact hmx rfl
        · cases hq
      · rw [e] at hq; cases hq
  have hsz := size_of_szT (P := P) hs
  have key : ∀ {a : Option Addr} {len cp : Nat} {w : World}, f x = .slice a len cp → ol.getD 0 ≤ oh.getD len → oh.getD len ≤ om.getD cp → om.getD cp ≤ cp →
      (execOp f ⟨d, .slice t x lo hi mx, ty, pos, af, g⟩).run P w = .ok (.value (.slice (if om.getD cp = ol.getD 0 then a else a.map (·.add (ol.getD 0 * sz))) (oh.getD len - ol.getD 0) (om.getD cp - ol.getD 0))) w := by
    intro a len cp w hx g1 g2 g3
    have hrun := run_bounds (P := P) (isS := true) (len := len) (cap := cp) b1 b2 b3 rfl rfl rfl hmx' g1 g2 g3
    simp [execOp, hx, Instr.sliceAt, Instr.slice, Sem.run_bind, run_underlying hu, hrun, hsz]
  split at h6
  · rename_i h7
    obtain ⟨h9, h10⟩ := cond_ok h6 hg
    rw [Bool.and_eq_true, Bool.and_eq_true] at h9
    have g1 := Nat.eq_of_beq_eq_true h9.1.1
    have g2 := Nat.eq_of_beq_eq_true h9.1.2
    have g3 := Nat.eq_of_beq_eq_true h9.2
    have hx : f x = .slice none 0 0 := hE x (by simp) _ h7
    exact .val (v := .s (.x .sn)) (x := .slice none 0 0) hH rfl h10 (fun w _ => by rw [key hx (by omega) (by omega) (by omega)]; simp [g1, g2, g3])
  · rename_i h7
    split at h6
    · obtain ⟨h9, h10⟩ := cond_ok h6 hg
      rw [Bool.and_eq_true] at h9
      have g1 := Nat.eq_of_beq_eq_true h9.1
      have g2 := Nat.eq_of_beq_eq_true h9.2
      obtain ⟨a, c, hx⟩ := (show okX σ .se (f x) from hE x (by simp) _ h7)
      refine .val (v := .s (.x .se)) (x := .slice (some a) 0 c) hH ⟨a, c, rfl⟩ h10 (fun w _ => ?_)
      rw [key hx (by omega) (by simp; omega) (by simp)]
      simp only [g1, g2, Option.getD_none, Nat.sub_zero, Nat.zero_mul]
      have e1 : a.add 0 = a := by unfold Addr.add; simp
      by_cases hc : c = 0 <;> simp [hc, e1]
    · subst h6; exact good_bad hg
  · rename_i m o len c h7
    obtain ⟨h9, h10⟩ := cond_ok h6 hg
    rw [Bool.and_eq_true, Bool.and_eq_true] at h9
    have g1 := Nat.le_of_ble_eq_true h9.1.1
    have g2 := Nat.le_of_ble_eq_true h9.1.2
    have g3 := Nat.le_of_ble_eq_true h9.2
    obtain ⟨bb, cp, cc, h11, hx, h12, _⟩ := okV_l (hE x (by simp) _ h7)
    have := h12 rfl; subst this
    refine .val (v := .s (.l m (cond (Nat.beq (om.getD cp) (ol.getD 0)) o (o + ol.getD 0 * sz)) (oh.getD len - ol.getD 0) (om.getD cp - ol.getD 0) false)) (x := .slice (some ⟨bb, cond (Nat.beq (om.getD cp) (ol.getD 0)) o (o + ol.getD 0 * sz), none⟩) (oh.getD len - ol.getD 0) (om.getD cp - ol.getD 0)) hH ⟨bb, cc, h11, rfl⟩ h10 (fun w _ => ?_)
    rw [key hx g1 g2 g3]
    by_cases hq : om.getD cp = ol.getD 0
    · have hq' : Nat.beq (om.getD cp) (ol.getD 0) = true := by rw [hq]; simp
      simp only [hq', cond_true, if_pos hq]
    · rw [beq_ne hq, if_neg hq]; simp [addr_add]
  · rename_i m o len c h7
    obtain ⟨bb, cp, cc, h11, hx, _, h12⟩ := okV_l (hE x (by simp) _ h7)
    obtain ⟨h13, rfl⟩ := h12 rfl
    split at h6
    · obtain ⟨h9, h10⟩ := cond_ok h6 hg
      rw [Bool.and_eq_true, Bool.or_eq_true] at h9
      have g1 := Nat.le_of_ble_eq_true h9.1
      have g2 : oh.getD len ≤ cc - c := by
        rcases h9.2 with g | g
        · have := Nat.le_of_ble_eq_true g; omega
        · have : c + oh.getD len ≤ cc := room_ok (m := 0) hH h11 g
          omega
      have hk := fun w => key (w := w) hx g1 (show oh.getD len ≤ Option.getD none (cc - c) from g2) (Nat.le_refl _)
      cases hb : (Nat.blt (ol.getD 0) (oh.getD len) || Nat.beq (ol.getD 0) 0 || Nat.blt (ol.getD 0) len) with
      | true =>
        rw [hb] at h10
        rw [Bool.or_eq_true, Bool.or_eq_true] at hb
        refine .val (v := .s (.l m (o + ol.getD 0 * sz) (oh.getD len - ol.getD 0) (c + ol.getD 0) true)) (x := .slice (some ⟨bb, o + ol.getD 0 * sz, none⟩) (oh.getD len - ol.getD 0) (cc - c - ol.getD 0)) hH ⟨bb, cc, h11, by omega, by rw [Nat.sub_sub]⟩ h10 (fun w _ => ?_)
        rw [hk w]
        simp only [Option.getD_none]
        by_cases hq : cc - c = ol.getD 0
        · have h0 : ol.getD 0 = 0 := by
            rcases hb with (hb | hb) | hb
            · have := blt_lt hb; omega
            · exact Nat.eq_of_beq_eq_true hb
            · have := blt_lt hb; omega
          rw [if_pos hq, h0]; simp
        · rw [if_neg hq]; simp [addr_add]
      | false =>
        rw [hb] at h10
        have e1 : oh.getD len - ol.getD 0 = 0 := by
          rw [Bool.or_eq_false_iff, Bool.or_eq_false_iff] at hb
          have : ¬ ol.getD 0 < oh.getD len := fun hlt => by rw [blt_true hlt] at hb; cases hb.1.1
          omega
        by_cases hq : cc - c = ol.getD 0
        · refine .val (v := .s (.x .se)) (x := .slice (some ⟨bb, o, none⟩) 0 (cc - c - ol.getD 0)) hH ⟨_, _, rfl⟩ h10 (fun w _ => ?_)
          rw [hk w]; simp only [Option.getD_none]; rw [if_pos hq, e1]
        · refine .val (v := .s (.x .se)) (x := .slice (some ⟨bb, o + ol.getD 0 * sz, none⟩) 0 (cc - c - ol.getD 0)) hH ⟨_, _, rfl⟩ h10 (fun w _ => ?_)
          rw [hk w]; simp only [Option.getD_none]; rw [if_neg hq, e1]; simp [addr_add]
    · rename_i q
      obtain ⟨h9, h10⟩ := cond_ok h6 hg
      rw [Bool.and_eq_true, Bool.and_eq_true, Bool.and_eq_true] at h9
      have g1 := Nat.le_of_ble_eq_true h9.1.1.1
      have g2 := Nat.le_of_ble_eq_true h9.1.1.2
      have g3 := Nat.le_of_ble_eq_true h9.1.2
      have g4 := blt_lt h9.2
      refine .val (v := .s (.l m (o + ol.getD 0 * sz) (oh.getD len - ol.getD 0) (q - ol.getD 0) false)) (x := .slice (some ⟨bb, o + ol.getD 0 * sz, none⟩) (oh.getD len - ol.getD 0) (q - ol.getD 0)) hH ⟨bb, cc, h11, rfl⟩ h10 (fun w _ => ?_)
      rw [key hx g1 (by simpa using g2) (by simp; omega)]
      simp only [Option.getD_some]
      rw [if_neg (by omega)]; simp [addr_add]
  · subst h6; exact good_bad hg
end
end Go.Proofs.YtpcdcemcjbeajaaGreatDoor
set_option linter.unusedVariables false
set_option linter.unusedSimpArgs false
namespace Go.Proofs.YtpcdcemcjbeajaaGreatDoor
open Go.RowKit
section
variable {P : Program} {w0 : World} {B : List Nat} {f : Operand → Value} {σ : Sg} {nx : Nm} {h : Hp} {L : List Ent} {n : Nat} {env : En} {k : Kt} {dd : List D} {r : Rs}
variable {d : Option Nat} {ty : TypeId} {pos : String} {af : Array Edge} {g : Option (Nat × Bool)} {ih : Ih} {x y z : Operand} {t t' : TypeId}
theorem Does.new {o : Oper} {nx' : Nm} {O' : O} {ob : Obj} {cap : Nat} {v : V} {val : Nat → Value} {Φ : V → Hp → Nm → Prop} (hH : HR σ nx h L) (hx : nx'.val = nx.val + 1) (ho : OR σ cap O' ob) (hn : Φ v (set8 nx (some O') h) nx') (hv : ∀ b, okV (σ.ext nx (b, cap)) v (val b))
    (hr : ∀ w, St w0 B w L → (execOp f o).run P w = .ok (.value (val w.heap.size)) (w.alloc ob)) (hqt : quietO o.op = false := by rfl) : Does P w0 B f o σ L Φ := fun w hw => by
  obtain ⟨h1, h2⟩ := hH.new hx (b := w.heap.size) (cap := cap) (o := O') (ob := ob) (fun p hp e => by have := hw.lt hp; omega) ho
  exact ⟨_, v, _, _, nx', _, _, h1, hv _, h2, hn, .inl (hr w hw), hw.alloc ob, fun h => by rw [hqt] at h; cases h⟩
theorem OR.cells {q : TypeId} {ks : List S} {vs : List Value} (h : All2 (okS σ) ks vs) : OR σ 0 (.c q 0 0 ks) (cel q vs) := ⟨vs, [], h, by simp, fun h => absurd rfl h, fun _ => rfl⟩
theorem okV_new (b cap : Nat) : okV (σ.ext nx (b, cap)) (.s (.p nx 0)) (.pointer (some ⟨b, 0, none⟩)) := ⟨b, cap, Sg.ext_same _ _, rfl⟩
theorem zeroL_ok {q : TypeId} {z : List S} (hz : zeroL P q = some z) : ∃ v : Value, All2 (okS σ) z v.cells.toList ∧ ∀ w, (zeroValue q).run P w = .ok v w := by
  unfold zeroL at hz
  split at hz
  · rename_i i hi
    split at hz
    · rename_i v hv
      exact ⟨v, constL_ok σ hz, fun w => by simp [zeroValue, typeInfo, hi, hv]⟩
    · cases hz
  · cases hz
theorem does_new {z : List S} (hz : zeroL P t = some z) (hH : HR σ nx h L) (hr : r_new (dstP n d) t z ih k env h nx dd = r) (hg : good r) : Dn P w0 B f σ L n k env dd r ⟨d, .alloc t, ty, pos, af, g⟩ := by
  obtain ⟨nx', h1, h2⟩ := newK_ok hr hg
  obtain ⟨v, h3, h4⟩ := zeroL_ok (σ := σ) hz
  exact .new hH h1 (.cells h3) h2 (fun b => okV_new b 0) (fun w _ => by simp [execOp, Instr.alloc, Sem.run_bind, h4, newVar, newRow])
theorem vcells_ok {v : V} {cs : List S} {u : Value} (hv : vcells v = some cs) (ho : okV σ v u) : ∃ vs, All2 (okS σ) cs vs ∧ u.cells = vs.toArray := by
  cases v with
  | s x => injection hv with hv; subst hv; exact ⟨[u], ⟨ho, trivial⟩, (okS_cell (σ := σ) (x := x) (v := u) ho).1⟩
  | a l => injection hv with hv; subst hv; obtain ⟨vs, h1, rfl⟩ := okV_a ho; exact ⟨vs, h1, rfl⟩
  | t l => cases hv
theorem does_box (hH : HR σ nx h L) (hE : OpsOk σ n env f #[x]) (hr : r_box (dstP n d) t (trA n x) ih k env h nx dd = r) (hg : good r) : Dn P w0 B f σ L n k env dd r ⟨d, .box t x, ty, pos, af, g⟩ := by
  obtain ⟨v, h1, h2⟩ := onV_ok hr hg
  obtain ⟨cs, h3, h4⟩ := onV_ok h2 hg
  obtain ⟨nx', h5, h6⟩ := newK_ok h4 hg
  obtain ⟨vs, h7, h8⟩ := vcells_ok h3 (hE x (by simp) _ h1)
  exact .new hH h5 (.cells h7) h6 (fun b => okV_new b 0) (fun w _ => by simp [execOp, Instr.box, Sem.run_bind, newVar, newRow, h8])
theorem fold_over : ∀ (l : List Value) (o k : Nat) (cs : Array Value), o + k + l.length ≤ cs.size → ((l.zipIdx k).foldl (fun (cs : Array Value) (x : Value × Nat) => cs.setIfInBounds (o + x.2) x.1) cs).toList = cs.toList.take (o + k) ++ l ++ cs.toList.drop (o + k + l.length)
  | [], o, k, cs, h => by simp
  | a :: l, o, k, cs, h => by
    simp only [List.length_cons] at h
    simp only [List.zipIdx_cons, List.foldl_cons]
    rw [fold_over l o (k + 1) _ (by simp; omega)]
    simp only [Array.toList_setIfInBounds, List.length_cons]
    have hk : o + k < cs.toList.length := by simp; omega
    have e1 : (cs.toList.set (o + k) a).take (o + (k + 1)) = cs.toList.take (o + k) ++ [a] := by
      rw [show o + (k + 1) = o + k + 1 by omega, List.take_succ_eq_append_getElem (by simpa using hk), List.take_set_of_le (Nat.le_refl _)]; simp
    have e2 : (cs.toList.set (o + k) a).drop (o + (k + 1) + l.length) = cs.toList.drop (o + k + (l.length + 1)) := by
      rw [show o + (k + 1) + l.length = o + k + (l.length + 1) by omega]; exact List.drop_set_of_lt (by omega)
    rw [e1, e2]; simp
theorem fillA_ok {place : Nat → Option (Nat × Nat)} : ∀ {ps : List (Nat × Operand)} {ms : List (Nat × Nat × A)} {z cs : List S} {vz : List Value}, All2 (fun p m => ∃ o sz, place p.1 = some (o, sz) ∧ m = (o, sz, trA n p.2)) ps ms → (∀ p ∈ ps, ∀ v, getA env (trA n p.2) = some v → okV σ v (f p.2)) → All2 (okS σ) z vz → fillA env ms z = some cs →
    ∃ vc, All2 (okS σ) cs vc ∧ Instr.fill place vz.toArray (ps.map fun p => (p.1, f p.2)) = some vc.toArray
  | [], [], z, cs, vz, _, _, hz, hf => by injection hf with hf; subst hf; exact ⟨vz, hz, rfl⟩
  | p :: ps, m :: ms, z, cs, vz, hp, hE, hz, hf => by
    obtain ⟨⟨o, sz, h1, rfl⟩, h2⟩ := hp
    have hf' : (match (getA env (trA n p.2)).bind vcells with | some cs => (match lenIs cs sz, over z o cs with | true, some z => fillA env ms z | _, _ => none) | none => none) = some cs := hf
    split at hf'
    · rename_i us h3
      obtain ⟨v, h4, h5⟩ := obind h3
      obtain ⟨vs, h6, h7⟩ := vcells_ok h5 (hE p (by simp) _ h4)
      split at hf'
      · rename_i z' h8 h9
        obtain ⟨h10, h11⟩ := over_ok h9
        have h12 := lenIs_ok h8
        have h13 := h6.length
        have h14 := hz.length
        have hz' : All2 (okS σ) z' (vz.take o ++ vs ++ vz.drop (o + vs.length)) := by
          rw [h10]
          refine ((hz.take o).append h6).append ?_
          rw [h13]; exact hz.drop _
        obtain ⟨vc, h15, h16⟩ := fillA_ok h2 (fun q hq => hE q (List.mem_cons_of_mem _ hq)) hz' hf'
        refine ⟨vc, h15, ?_⟩
        simp only [List.map_cons, Instr.fill, h1, h7]
        rw [if_neg (by simp; omega)]
        rw [← h16]
        congr 1
        apply Array.ext'
        rw [← Array.foldl_toList, Array.toList_zipIdx]
        have := fold_over vs o 0 vz.toArray (by simp; omega)
        simpa using this
      · cases hf'
    · cases hf'
  | [], _ :: _, _, _, _, h, _, _, _ => h.elim
  | _ :: _, [], _, _, _, h, _, _, _ => h.elim
theorem rep_eq (l : List S) : ∀ m, rep l m = (List.replicate m l).flatten
  | 0 => rfl
  | m + 1 => by show app l (rep l m) = _; rw [app_eq, rep_eq l m, List.replicate_succ]; simp
theorem rep_ok {z : List S} {vz : List Value} (hz : All2 (okS σ) z vz) : ∀ m, All2 (okS σ) (rep z m) ((List.replicate m vz).flatten)
  | 0 => trivial
  | m + 1 => by show All2 (okS σ) (app z (rep z m)) _; rw [app_eq, List.replicate_succ]; simpa using hz.append (rep_ok hz m)
theorem range_cells (vz : List Value) (m : Nat) : ((Array.range (m * vz.length)).map fun i => vz.toArray[i % vz.toArray.size]!) = ((List.replicate m vz).flatten).toArray := by
  apply Array.ext
  · simp
  · intro i h1 h2
    simp at h1
    have hpos : 0 < vz.length := by rcases Nat.eq_zero_or_pos vz.length with h | h; · rw [h] at h1; omega
                                    · exact h
    have hlt := Nat.mod_lt i hpos
    simp only [Array.getElem_map, Array.getElem_range, List.getElem_toArray, List.size_toArray]
    rw [getElem!_pos vz.toArray _ (by simpa using hlt)]
    simp only [List.getElem_toArray]
    have key : ∀ (m i : Nat) (h : i < ((List.replicate m vz).flatten).length), ((List.replicate m vz).flatten)[i] = vz[i % vz.length]'(Nat.mod_lt _ hpos) := by
      intro m
      induction m with
      | zero => intro i h; simp at h
      | succ m ihm =>
        intro i h
        simp only [List.replicate_succ, List.flatten_cons, List.getElem_append]
        split
        · rename_i hi; congr 1; exact (Nat.mod_eq_of_lt hi).symm
        · rename_i hi
          rw [ihm]; congr 1
          exact (Nat.mod_eq_sub_mod (by omega)).symm
    exact (key m i h2).symm
theorem partsA_ok (s : Nat) : ∀ (ps : List (Nat × Operand)), All2 (fun p m => ∃ o sz, (fun i => some (i * s, s)) p.1 = some (o, sz) ∧ m = (o, sz, trA n p.2)) ps (partsA n s ps)
  | [] => trivial
  | (i, x) :: ps => ⟨⟨i * s, s, rfl, rfl⟩, partsA_ok s ps⟩
theorem partsS_ok {fs : Array Field} {places : Array (Nat × Nat)} (hp : ∀ (i : Nat) (fl : Field) (s : Nat), fs[i]? = some fl → szT P fl.type = some s → places[i]? = some (fl.offset, s)) : ∀ {ps : List (Nat × Operand)} {ms : List (Nat × Nat × A)}, partsS P n fs ps = some ms → All2 (fun p m => ∃ o sz, (fun i => places[i]?) p.1 = some (o, sz) ∧ m = (o, sz, trA n p.2)) ps ms
  | [], ms, h => by injection h with h; subst h; trivial
  | (i, x) :: ps, ms, h => by
    have h' : (match fs[i]?, partsS P n fs ps with | some f, some r => (match szT P f.type with | some s => some ((f.offset, s, trA n x) :: r) | none => none) | _, _ => none) = some ms := h
    split at h'
    · rename_i fl rr h1 h2
      split at h'
      · rename_i s h3
        injection h' with h'; subst h'
        exact ⟨⟨_, _, hp i fl s h1 h3, rfl⟩, partsS_ok hp h2⟩
      · cases h'
    · cases h'
theorem places_ok (fs : Array Field) (hs : ∀ fl ∈ fs.toList, ∃ s, szT P fl.type = some s) (w : World) : ∃ places : Array (Nat × Nat), (fs.mapM fun (fl : Field) => do pure (fl.offset, ← sizeOf fl.type) : Sem (Array (Nat × Nat))).run P w = .ok places w ∧ ∀ (i : Nat) (fl : Field) (s : Nat), fs[i]? = some fl → szT P fl.type = some s → places[i]? = some (fl.offset, s) := by
  have key : ∀ l : List Field, (∀ fl ∈ l, ∃ s, szT P fl.type = some s) → ∃ r : List (Nat × Nat), (l.mapM fun (fl : Field) => do pure (fl.offset, ← sizeOf fl.type) : Sem (List (Nat × Nat))).run P w = .ok r w ∧ ∀ (i : Nat) (fl : Field) (s : Nat), l[i]? = some fl → szT P fl.type = some s → r[i]? = some (fl.offset, s) := by
    intro l
    induction l with
    | nil => intro _; exact ⟨[], by simp, fun i fl s h => by simp at h⟩
    | cons a l ihl =>
      intro hl
      obtain ⟨s, hs⟩ := hl a (by simp)
      obtain ⟨r, h1, h2⟩ := ihl (fun fl hfl => hl fl (List.mem_cons_of_mem _ hfl))
      refine ⟨(a.offset, s) :: r, ?_, fun i fl s' h3 h4 => ?_⟩
      · simp only [List.mapM_cons, Sem.run_bind, size_of_szT hs, Result.andThen_ok, Sem.run_pure, h1]
      · cases i with
        | zero => simp at h3; subst h3; rw [hs] at h4; injection h4 with h4; subst h4; rfl
        | succ i => simpa using h2 i fl s' (by simpa using h3) h4
  obtain ⟨r, h1, h2⟩ := key fs.toList hs
  refine ⟨r.toArray, ?_, fun i fl s h3 h4 => by simpa using h2 i fl s (by simpa using h3) h4⟩
  rw [← Array.toArray_toList (xs := fs), List.mapM_toArray, Sem.run_map, h1]
  rfl
theorem does_bldS {fs : Array Field} {ps : Array (Nat × Operand)} {z : List S} {ms : List (Nat × Nat × A)} (hu : P.underlying t = some (.struct fs)) (hz : zeroL P t = some z) (ha : ∀ fl ∈ fs.toList, ∃ s, szT P fl.type = some s) (hp : partsS P n fs ps.toList = some ms) (hH : HR σ nx h L) (hE : OpsOk σ n env f ((ps.toList.map (·.2)).toArray)) (hr : r_bld (dstP n d) z ms ih k env h nx dd = r) (hg : good r) : Dn P w0 B f σ L n k env dd r ⟨d, .build t ps, ty, pos, af, g⟩ := by
  obtain ⟨cs, h1, h2⟩ := onV_ok hr hg
  obtain ⟨v, h3, h4⟩ := zeroL_ok (σ := σ) hz
  intro w hw
  obtain ⟨places, h5, h6⟩ := places_ok (P := P) fs ha w
  obtain ⟨vc, h7, h8⟩ := fillA_ok (partsS_ok h6 hp) (fun p hp' => hE p.2 (by simp; exact ⟨p.1, by simpa using hp'⟩)) h3 h1
  refine ⟨σ, .a cs, .agg vc.toArray, h, nx, w, L, Sg.le.refl σ, ⟨vc, h7, rfl⟩, hH, h2, .inl ?_, hw, fun _ => ⟨rfl, rfl, rfl⟩⟩
  have e1 : (ps.map fun (x : Nat × Operand) => (x.1, f x.2)).toList = ps.toList.map fun p => (p.1, f p.2) := by simp
  simp only [execOp, Instr.build, Sem.run_bind, h4, Result.andThen_ok, run_underlying hu, h5, Sem.run_pure]
  rw [e1, show v.cells = v.cells.toList.toArray by simp, h8]
  rfl
theorem does_bldA {e q s : Nat} {ps : Array (Nat × Operand)} {z : List S} (hu : P.underlying t = some (.array q e)) (hz : zeroL P t = some z) (hs : szT P e = some s) (hH : HR σ nx h L) (hE : OpsOk σ n env f ((ps.toList.map (·.2)).toArray)) (hr : r_bld (dstP n d) z (partsA n s ps.toList) ih k env h nx dd = r) (hg : good r) : Dn P w0 B f σ L n k env dd r ⟨d, .build t ps, ty, pos, af, g⟩ := by
  obtain ⟨cs, h1, h2⟩ := onV_ok hr hg
  obtain ⟨v, h3, h4⟩ := zeroL_ok (σ := σ) hz
  obtain ⟨vc, h7, h8⟩ := fillA_ok (place := fun i => some (i * s, s)) (ps := ps.toList) (partsA_ok s ps.toList) (fun p hp' => hE p.2 (by simp; exact ⟨p.1, by simpa using hp'⟩)) h3 h1
  refine .val (v := .a cs) (x := .agg vc.toArray) hH ⟨vc, h7, rfl⟩ h2 (fun w _ => ?_)
  have e1 : (ps.map fun (x : Nat × Operand) => (x.1, f x.2)).toList = ps.toList.map fun p => (p.1, f p.2) := by simp
  simp only [execOp, Instr.build, Sem.run_bind, h4, Result.andThen_ok, run_underlying hu, size_of_szT hs, Sem.run_pure]
  rw [e1, show v.cells = v.cells.toList.toArray by simp, h8]
  rfl
theorem does_bsl {e q s : Nat} {ps : Array (Nat × Operand)} {z : List S} (hu : P.underlying t = some (.slice e)) (hz : zeroL P e = some z) (hs : szT P e = some s) (hl : z.length = s) (hq : q * s ≤ 1000000) (hH : HR σ nx h L) (hE : OpsOk σ n env f ((ps.toList.map (·.2)).toArray)) (hr : r_bsl (dstP n d) e q z (partsA n s ps.toList) ih k env h nx dd = r) (hg : good r) : Dn P w0 B f σ L n k env dd r ⟨d, .buildSlice t q ps, ty, pos, af, g⟩ := by
  obtain ⟨cs, h1, h2⟩ := onV_ok hr hg
  obtain ⟨nx', h5, h6⟩ := newK_ok h2 hg
  obtain ⟨v, h3, h4⟩ := zeroL_ok (σ := σ) hz
  obtain ⟨vc, h7, h8⟩ := fillA_ok (place := fun i => some (i * s, s)) (ps := ps.toList) (partsA_ok s ps.toList) (fun p hp' => hE p.2 (by simp; exact ⟨p.1, by simpa using hp'⟩)) (rep_ok h3 q) h1
  have hl' : v.cells.toList.length = s := by rw [← h3.length]; exact hl
  refine .new (val := fun b => .slice (some ⟨b, 0, none⟩) q q) hH h5 (.cells (q := e) h7) h6 (fun b => ⟨b, 0, Sg.ext_same _ _, rfl⟩) (fun w _ => ?_)
  have e1 : (ps.map fun (x : Nat × Operand) => (x.1, f x.2)).toList = ps.toList.map fun p => (p.1, f p.2) := by simp
  have hc : ¬ (q * s > 2 ^ 24) := by omega
  have hcell : ∀ zz : Value, (zz = v ∨ q * s = 0) → (if q * s = 0 then (#[] : Array Value) else zz.cells) = (if q * s = 0 then #[] else v.cells) := fun zz hzz => by
    by_cases h0 : q * s = 0
    · simp [h0]
    · rcases hzz with rfl | h1
      · rfl
      · exact absurd h1 h0
  by_cases h0 : q * s = 0
  · have hrow : ((Array.range (q * s)).map fun i => (#[] : Array Value)[i % (#[] : Array Value).size]!) = ((List.replicate q v.cells.toList).flatten).toArray := by
      have hl2 : v.cells.size = s := by simpa using hl'
      have : ((List.replicate q v.cells.toList).flatten).length = 0 := by
        have : ((List.replicate q v.cells.toList).flatten).length = q * v.cells.size := by simp
        rw [this, hl2]; exact h0
      rw [List.length_eq_zero_iff.1 this, h0]; simp
    simp only [execOp, Instr.buildSlice, Sem.run_bind, run_underlying hu, Result.andThen_ok, size_of_szT hs, Sem.run_ite, if_neg hc, if_pos h0, Sem.run_pure]
    rw [e1, hrow, h8]
    simp [newRow]
  · have hrow : ((Array.range (q * s)).map fun i => v.cells[i % v.cells.size]!) = ((List.replicate q v.cells.toList).flatten).toArray := by
      have := range_cells v.cells.toList q
      rw [hl'] at this
      simpa using this
    simp only [execOp, Instr.buildSlice, Sem.run_bind, run_underlying hu, Result.andThen_ok, size_of_szT hs, Sem.run_ite, if_neg hc, if_neg h0, h4, Sem.run_pure]
    rw [e1, hrow, h8]
    simp [newRow]
theorem mem_split {p : Ent} {l : List Ent} (h : p ∈ l) : ∃ L1 L2, l = L1 ++ p :: L2 := List.append_of_mem h
theorem wr_ok {m : Nm} {q rr nn o : Nat} {ks ks' cs : List S} {vs : List Value} {b c : Nat} (hH : HR σ nx h L) (hm : get8 m h = some (.c q rr nn ks)) (hb : σ m = some (b, c)) (ho : over ks o cs = some ks') (hc : All2 (okS σ) cs vs) {w : World} (hw : St w0 B w L) :
    ∃ w' L', (storeCells ⟨b, o, none⟩ vs 0).run P w = .ok () w' ∧ St w0 B w' L' ∧ HR σ nx (set8 m (some (.c q rr nn ks')) h) L' := by
  obtain ⟨b', c', vv, junk, h1, h2, h3, h4⟩ := cells_of hH hm
  rw [hb] at h1; injection h1 with h1; injection h1 with e1 e2; subst e1 e2
  obtain ⟨L1, L2, rfl⟩ := mem_split h2
  obtain ⟨h5, h6⟩ := over_ok ho
  have hlen := h3.length
  have hlc := hc.length
  have hone : ∀ u ∈ vs, u.oneCell' = true := by
    intro u hu
    obtain ⟨i, hi, rfl⟩ := List.getElem_of_mem hu
    obtain ⟨v, hv, hok⟩ := hc.get (i := i) (a := cs[i]'(by omega)) (List.getElem?_eq_getElem _)
    have : vs[i] = v := by rw [List.getElem?_eq_getElem hi] at hv; exact Option.some.inj hv
    rw [this]; exact (okS_cell hok).2
  obtain ⟨w', hr, hst⟩ := store_cells (P := P) (off := o) vs 0 (vv ++ junk) w hone hw (by simp; omega)
  refine ⟨w', _, hr, hst, hH.wr hm hb ?_⟩
  have e3 : (vv ++ junk).take (o + 0) ++ vs ++ (vv ++ junk).drop (o + 0 + vs.length) = (vv.take o ++ vs ++ vv.drop (o + vs.length)) ++ junk := by
    rw [Nat.add_zero, List.take_append_of_le_length (by omega), List.drop_append_of_le_length (by omega)]; simp
  rw [e3]
  refine ⟨_, junk, ?_, rfl, fun hrr => ?_, h4.2⟩
  · rw [h5, hlc]; exact ((h3.take o).append hc).append (h3.drop _)
  · obtain ⟨h7, h8⟩ := h4.1 hrr
    refine ⟨?_, ?_⟩
    · rw [h5]; simp; omega
    · simp; omega
theorem does_st {sz : Nat} (hs : szT P t = some sz) (hH : HR σ nx h L) (hE : OpsOk σ n env f #[x, y]) (hr : r_st (dstP n d) sz (trA n x) (trA n y) ih k env h nx dd = r) (hg : good r) : Dn P w0 B f σ L n k env dd r ⟨d, .store t x y, ty, pos, af, g⟩ := by
  obtain ⟨m, o, h1, h2⟩ := onP_ok hr hg
  obtain ⟨v, h3, h4⟩ := onV_ok h2 hg
  obtain ⟨cs, h5, h6⟩ := onV_ok h4 hg
  obtain ⟨q, rr, nn, ks, h7, h8⟩ := onC_ok h6 hg
  obtain ⟨h9, h10⟩ := cond_ok h8 hg
  obtain ⟨ks', h11, h12⟩ := onV_ok h10 hg
  obtain ⟨b, c, h13, h14⟩ := okV_p (hE x (by simp) _ h1)
  obtain ⟨vs, h15, h16⟩ := vcells_ok h5 (hE y (by simp) _ h3)
  have hl := lenIs_ok h9
  have hsz := size_of_szT (P := P) hs
  intro w hw
  obtain ⟨w', L', h17, h18, h19⟩ := wr_ok (P := P) hH h7 h13 h11 h15 hw
  refine ⟨σ, .t [], undef, _, nx, w', L', Sg.le.refl σ, ⟨[], trivial, rfl⟩, h19, h12, .inr ⟨?_, rfl⟩, h18, fun h => Bool.noConfusion (show false = true from h)⟩
  have h20 := h15.length
  simp [execOp, h14, Instr.storeAt, Instr.sureAddr, storeVar, Sem.run_bind, hsz, h16, h17, ← h20, hl]
theorem does_mks {e s bytes : Nat} {z : List S} {ti : TypeInfo} (hu : P.underlying t = some (.slice e)) (hz : zeroL P e = some z) (hs : szT P e = some s) (hl : z.length = s) (hi : P.info? e = some ti) (hb : ti.bytes ≤ 1000000) (hH : HR σ nx h L) (hE : OpsOk σ n env f #[x, y]) (hr : r_mks (dstP n d) e z (trA n x) (trA n y) ih k env h nx dd = r) (hg : good r) : Dn P w0 B f σ L n k env dd r ⟨d, .makeSlice t x y, ty, pos, af, g⟩ := by
  obtain ⟨i1, a, h1, h2⟩ := onI_ok hr hg
  obtain ⟨i2, b, h3, h4⟩ := onI_ok h2 hg
  obtain ⟨l, rfl, h5⟩ := onN_ok h4 hg
  obtain ⟨c, rfl, h6⟩ := onN_ok h5 hg
  obtain ⟨h7, h8⟩ := cond_ok h6 hg
  obtain ⟨nx', h9, h10⟩ := newK_ok h8 hg
  rw [Bool.and_eq_true] at h7
  have g1 := Nat.le_of_ble_eq_true h7.1
  have g2 := Nat.le_of_ble_eq_true h7.2
  have hx := okV_i (hE x (by simp) _ h1)
  have hy := okV_i (hE y (by simp) _ h3)
  obtain ⟨v, h11, h12⟩ := zeroL_ok (σ := σ) hz
  have hl' : v.cells.size = s := by have := h11.length; simp at this; omega
  refine .new (val := fun b => .slice (some ⟨b, 0, none⟩) l c) hH h9 (.cells (q := e) (rep_ok h11 c)) h10 (fun b => ⟨b, 0, Sg.ext_same _ _, rfl⟩) (fun w _ => ?_)
  have hti : (typeInfo e).run P w = .ok ti w := by simp [typeInfo, hi]
  have w1 : IntKind.i64.wrap (l : Int) = l := wrap_i64 (by omega)
  have w2 : IntKind.i64.wrap (c : Int) = c := wrap_i64 (by omega)
  have hbc : (ti.bytes : Int) * (c : Int) ≤ 2 ^ 48 := by
    have : ti.bytes * c ≤ 1000000 * 1000000 := Nat.mul_le_mul hb g2
    have h2 : ((ti.bytes * c : Nat) : Int) ≤ ((1000000 * 1000000 : Nat) : Int) := by exact_mod_cast this
    rw [Int.natCast_mul] at h2
    omega
  have hrow : c * s ≠ 0 → ((Array.range (c * s)).map fun i => v.cells[i % v.cells.size]!) = ((List.replicate c v.cells.toList).flatten).toArray := fun h0 => by
    have := range_cells v.cells.toList c
    simp only [Array.length_toList, Array.toArray_toList] at this
    rw [hl'] at this ⊢
    exact this
  have ha : ∀ (q : IntKind) (k : Int) (w : World), (asInt (.int q k)).run P w = .ok k w := fun q k w => by simp [asInt, asIntOf, Sem.run_bind]
  have h1' : ¬ ((l : Int) < 0) := by omega
  have h2' : ¬ ((l : Int) > (c : Int)) := by omega
  have h3' : (decide ((c : Int) < 0) || decide ((ti.bytes : Int) * (c : Int) > 2 ^ 48)) = false := by simp; omega
  simp only [execOp, hx, hy, Instr.makeSlice, Sem.run_bind, run_underlying hu, Result.andThen_ok, ha, Sem.run_pure, hti, w1, w2]
  simp only [h3', Bool.false_eq_true, false_or, h1', h2', if_false, Sem.run_ite, or_self, decide_false, Bool.or_self, Bool.or_false]
  by_cases h0 : c * s = 0
  · have hl0 : ((List.replicate c v.cells.toList).flatten) = [] := by
      apply List.length_eq_zero_iff.1
      have : ((List.replicate c v.cells.toList).flatten).length = c * v.cells.size := by simp
      rw [this, hl']; exact h0
    rw [hl0]
    simp only [Int.toNat_natCast, run_askRoom, size_of_szT hs, Sem.run_bind, Result.andThen_ok, h0, if_true, Sem.run_pure, newRow, run_newObj, World.alloc_eq]
    rw [show (Array.map (fun (x : Nat) => (#[] : Array Value)[x % (#[] : Array Value).size]!) (Array.range 0)) = #[] by simp]
  · simp only [Int.toNat_natCast, run_askRoom, size_of_szT hs, Sem.run_bind, Result.andThen_ok, if_neg h0, h12, Sem.run_pure, Sem.run_ite, hrow h0, newRow, run_newObj, World.alloc_eq]
end
end Go.Proofs.YtpcdcemcjbeajaaGreatDoor
