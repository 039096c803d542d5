/- WholeFar: EvT. -/
import Derived.Test.YtpcdcemcjbeajaaGreatDoorWf06
set_option linter.unusedVariables false
set_option linter.unusedSimpArgs false
namespace Go.Proofs.YtpcdcemcjbeajaaGreatDoor
open Go.RowKit
section
variable {P : Program} {w0 : World} {B : List Nat} {f : Operand → Value} {σ : Sg} {nx : Nm} {h : Hp} {L : List Ent} {n : Nat} {env : En} {k : Kt} {dd : List D} {r : Rs}
variable {d : Option Nat} {ty : TypeId} {pos : String} {af : Array Edge} {g : Option (Nat × Bool)} {ih : Ih} {x y z : Operand} {t t' : TypeId}
structure ChkOk (P : Program) (D : Nat) (t : TypeId) (m : Nat) : Prop where
  one : aggT P t = some false → m = 1 ∧ ∀ em v w, (Instr.checkKey em D t v).run P w = .ok () w
  agg : aggT P t = some true → szT P t = some m ∧ ∀ em (vs : List Value) w, vs.length = m → (Instr.checkKey em D t (.agg vs.toArray)).run P w = .ok () w
  some : aggT P t = some true ∨ aggT P t = some false
theorem ChkOk.part {D m off : Nat} (hC : ChkOk P D t m) {vs : List Value} (hl : off + m ≤ vs.length) : ∃ u, ∀ w, (part t vs.toArray off).run P w = .ok u w ∧ ∀ em, (Instr.checkKey em D t u).run P w = .ok () w := by
  rcases hC.some with ha | ha
  · obtain ⟨h1, h2⟩ := hC.agg ha
    exact ⟨_, fun w => ⟨part_a (aggT_of ha h1) (xs := vs.toArray) rfl w, fun em => h2 em _ w (by simp; omega)⟩⟩
  · obtain ⟨rfl, h2⟩ := hC.one ha
    have : off < vs.length := by omega
    exact ⟨vs[off], fun w => ⟨part_s' ha (by simp [this]) w, fun em => h2 em _ w⟩⟩
theorem flatF_each {rec : TypeId → Option (List Nat)} : ∀ {fs : List Field} {pos : Nat} {κs : List Nat}, flatF rec fs pos = some κs → ∀ fl ∈ fs, fl.name ≠ "_" ∧ ∃ kl, rec fl.type = some kl ∧ fl.offset + kl.length ≤ pos + κs.length
  | [], pos, κs, h, fl, hf => by cases hf
  | a :: fs, pos, κs, h, fl, hf => by
    have h' : (match a.name == "_", Nat.beq a.offset pos, rec a.type with
      | false, true, some l => (match flatF rec fs (pos + l.length) with | some r => some (l ++ r) | none => none)
      | _, _, _ => none) = some κs := h
    split at h'
    · rename_i kl e1 e2 e3
      split at h'
      · rename_i kr e4
        injection h' with h'; subst h'
        have e5 := Nat.eq_of_beq_eq_true e2
        rcases List.mem_cons.1 hf with rfl | hf
        · exact ⟨by simpa using e1, kl, e3, by simp; omega⟩
        · obtain ⟨g1, kl', g2, g3⟩ := flatF_each e4 fl hf
          exact ⟨g1, kl', g2, by simp at g3 ⊢; omega⟩
      · cases h'
    · cases h'
theorem flatK_chk : ∀ (q : Nat) (t : TypeId) (κs : List Nat), flatK P q t = some κs → ∀ D, q ≤ D → ChkOk P D t κs.length
  | 0, t, κs, h, _, _ => by cases h
  | q + 1, t, κs, h, D, hD => by
    obtain ⟨D, rfl⟩ : ∃ D', D = D' + 1 := ⟨D - 1, by omega⟩
    unfold flatK at h
    have leaf : ∀ (κ : Nat) (dsc : TypeDesc), P.underlying t = some dsc → leafK κ dsc = true → isAggD dsc = false → ChkOk P (D + 1) t 1 := fun κ dsc hu hk ha => by
      have e : aggT P t = some false := by unfold aggT; rw [hu]; simp [ha]
      refine ⟨fun _ => ⟨rfl, fun em v w => ?_⟩, (fun h => by rw [e] at h; cases h), .inr e⟩
      rw [Instr.checkKey]
      simp only [Sem.run_bind, run_underlying hu, Result.andThen_ok]
      cases dsc <;> first | rfl | (exfalso; simp [leafK] at hk; done) | (exfalso; cases κ <;> simp [leafK] at hk; done) | (rcases κ with _ | _ | _ | _ <;> first | rfl | (simp [leafK] at hk))
    split at h
    · rename_i kk hu; injection h with h; subst h; exact leaf 0 _ hu rfl rfl
    · rename_i hu; injection h with h; subst h; exact leaf 1 _ hu rfl rfl
    · rename_i hu; injection h with h; subst h; exact leaf 2 _ hu rfl rfl
    · rename_i fs hu
      have e : aggT P t = some true := by unfold aggT; rw [hu]; rfl
      split at h
      · rename_i l e1 e2
        split at h
        · rename_i s e3
          cases hs : Nat.beq s l.length with
          | false => rw [hs] at h; cases h
          | true =>
            rw [hs] at h; injection h with h; subst h
            have := Nat.eq_of_beq_eq_true hs; subst this
            refine ⟨(fun h => by rw [e] at h; cases h), fun _ => ⟨e3, fun em vs w hl => ?_⟩, .inl e⟩
            rw [Instr.checkKey]
            simp only [Sem.run_bind, run_underlying hu, Result.andThen_ok]
            rw [← Array.forIn_toList]
            have each : ∀ fl ∈ fs.toList, fl.name ≠ "_" ∧ ∃ u, ∀ w, (part fl.type vs.toArray fl.offset).run P w = .ok u w ∧ ∀ em, (Instr.checkKey em D fl.type u).run P w = .ok () w := fun fl hf => by
              obtain ⟨g1, kl, g2, g3⟩ := flatF_each e2 fl hf
              exact ⟨g1, (flatK_chk q fl.type kl g2 D (by omega)).part (by omega)⟩
            generalize fs.toList = FL at each
            induction FL with
            | nil => simp
            | cons fl FL ihF =>
              obtain ⟨hn, u, p1⟩ := each fl (by simp)
              simp only [List.forIn_cons, Sem.run_bind, hn, ne_eq, not_false_eq_true, if_true, Result.andThen_ok, (p1 w).1, (p1 w).2 em, Sem.run_pure]
              exact ihF (fun y hy => each y (by simp [hy]))
        · cases h
      · cases h
    · rename_i nn e0 hu
      have e : aggT P t = some true := by unfold aggT; rw [hu]; rfl
      split at h
      · rename_i l s s' e1 e2 e3
        cases hs : (Nat.beq s (nn * s') && Nat.beq s' l.length) with
        | false => rw [hs] at h; cases h
        | true =>
          rw [hs] at h; injection h with h; subst h
          rw [Bool.and_eq_true] at hs
          have h5 := Nat.eq_of_beq_eq_true hs.1
          have h6 := Nat.eq_of_beq_eq_true hs.2
          refine ⟨(fun h => by rw [e] at h; cases h), fun _ => ⟨by rw [repN_length, ← h6, ← h5]; exact e2, fun em vs w hl => ?_⟩, .inl e⟩
          rw [repN_length] at hl
          rw [Instr.checkKey]
          simp only [Sem.run_bind, run_underlying hu, Result.andThen_ok]
          simp only [Std.Legacy.Range.forIn_eq_forIn_range', Std.Legacy.Range.size, Nat.sub_zero, Nat.add_one_sub_one, Nat.div_one]
          have each : ∀ j ∈ List.range' 0 nn, ∃ u, ∀ w, (part e0 vs.toArray (j * s')).run P w = .ok u w ∧ ∀ em, (Instr.checkKey em D e0 u).run P w = .ok () w := fun j hj => by
            have hj : j < nn := by simpa using hj
            have hle : (j + 1) * l.length ≤ nn * l.length := Nat.mul_le_mul_right _ hj
            rw [Nat.add_mul] at hle
            exact (flatK_chk q e0 l e1 D (by omega)).part (by rw [h6]; omega)
          generalize List.range' 0 nn = is at each
          induction is with
          | nil => simp
          | cons j is ihJ =>
            obtain ⟨u, p1⟩ := each j (by simp)
            simp only [List.forIn_cons, Sem.run_bind, size_of_szT e3, Result.andThen_ok, (p1 w).1, (p1 w).2 em, Sem.run_pure]
            exact ihJ (fun y hy => each y (by simp [hy]))
      · cases h
    · cases h
theorem keyK_ok {κs : List Nat} (hk : keyK P t = some κs) (σ : Sg) : FlatOk P σ 10000 t κs ∧ ChkOk P 10000 t κs.length ∧ ((aggT P t = some false ∧ ∃ κ, κs = [κ]) ∨ (aggT P t = some true ∧ κs.length ≠ 1)) := by
  unfold keyK at hk
  split at hk
  · rename_i κs' h1 h2
    injection hk with hk; subst hk
    have hF := flatK_ok (P := P) σ 20 t _ h2 10000 (by omega)
    obtain ⟨κ, hκ, _⟩ := hF.one h1
    exact ⟨hF, flatK_chk 20 t _ h2 10000 (by omega), .inl ⟨h1, κ, hκ⟩⟩
  · rename_i κs' h1 h2
    cases hb : Nat.beq κs'.length 1 with
    | true => rw [hb] at hk; cases hk
    | false =>
      rw [hb] at hk; injection hk with hk; subst hk
      exact ⟨flatK_ok (P := P) σ 20 t _ h2 10000 (by omega), flatK_chk 20 t _ h2 10000 (by omega), .inr ⟨h1, fun e => by rw [e] at hb; cases hb⟩⟩
  · cases hk
theorem keyV_ok {κs : List Nat} {v : V} {a : A1} (h : keyV κs v = some a) {u : Value} (hv : okV σ v u) : okA σ a u ∧ keyB κs a = true := by
  unfold keyV at h
  cases v with
  | s x =>
    have h' : cond (keyB κs (.s x)) (some (A1.s x)) none = some a := h
    cases hb : keyB κs (.s x) with
    | false => rw [hb] at h'; cases h'
    | true => rw [hb] at h'; injection h' with h'; subst h'; exact ⟨hv, hb⟩
  | a l =>
    have h' : cond (keyB κs (.a l)) (some (A1.a l)) none = some a := h
    cases hb : keyB κs (.a l) with
    | false => rw [hb] at h'; cases h'
    | true => rw [hb] at h'; injection h' with h'; subst h'; exact ⟨hv, hb⟩
  | t l => cases h
theorem v1_ok {v : V} {a : A1} (h : v1 v = some a) {u : Value} (hv : okV σ v u) : okA σ a u := by
  cases v with
  | s x => injection h with h; subst h; exact hv
  | a l => injection h with h; subst h; exact hv
  | t l => cases h
theorem keyB_shape {κs : List Nat} {a : A1} (h : keyB κs a = true) : (∃ κ x, κs = [κ] ∧ a = .s x) ∨ (κs.length ≠ 1 ∧ ∃ l, a = .a l ∧ l.length = κs.length) := by
  unfold keyB at h
  split at h
  · exact .inl ⟨_, _, rfl, rfl⟩
  · cases h
  · rename_i l h1
    refine .inr ⟨fun e => ?_, l, rfl, lenIs_ok h⟩
    obtain ⟨κ, rfl⟩ := List.length_eq_one_iff.1 e
    exact h1 _ rfl
  · cases h
theorem check_ok {κs : List Nat} (hk : keyK P t = some κs) {a : A1} (hb : keyB κs a = true) {u : Value} (hu : okA σ a u) (em : Bool) (w : World) : (Instr.checkKey em 10000 t u).run P w = .ok () w := by
  obtain ⟨_, hC, hs⟩ := keyK_ok hk σ
  rcases keyB_shape hb with ⟨κ, s, rfl, rfl⟩ | ⟨h1, l, rfl, h2⟩
  · rcases hs with ⟨h3, _⟩ | ⟨_, h3⟩
    · exact (hC.one h3).2 em u w
    · exact absurd rfl h3
  · rcases hs with ⟨_, κ, rfl⟩ | ⟨h3, _⟩
    · exact absurd rfl h1
    · obtain ⟨vs, h4, rfl⟩ := hu
      exact (hC.agg h3).2 em vs w (by rw [← h4.length]; exact h2)
def KeyEq (P : Program) (t : TypeId) (u v : Value) (b : Bool) : Prop := (∀ w, (Op.equal t u v).run P w = .ok b w) ∧ ∀ dsc, P.underlying t = some dsc → Instr.sameNow dsc u v = none ∨ Instr.sameNow dsc u v = some b
theorem sameNow_in (D : Nat) {dsc : TypeDesc} {u v : Value} {b : Bool} (hu : P.underlying t = some dsc) (h : Instr.sameNow dsc u v = some b) (w : World) : (Op.equalIn (D + 1) t u v).run P w = .ok b w := by
  unfold Instr.sameNow at h
  split at h
  · split at h
    · rename_i e; subst e; injection h with h; subst h
      simp [Op.equalIn, run_underlying hu]
    · cases h
  · injection h with h; subst h; simp [Op.equalIn, run_underlying hu]
  · injection h with h; subst h; simp [Op.equalIn, run_underlying hu]
  · cases h
theorem sameNow_run {dsc : TypeDesc} {u v : Value} {b : Bool} (hu : P.underlying t = some dsc) (h : Instr.sameNow dsc u v = some b) (w : World) : (Op.equal t u v).run P w = .ok b w := sameNow_in 9999 hu h w
theorem KeyEq.of_run {u v : Value} {b : Bool} (h : ∀ w, (Op.equal t u v).run P w = .ok b w) (w : World) : KeyEq P t u v b := ⟨h, fun dsc hd => by
  cases e : Instr.sameNow dsc u v with
  | none => exact .inl rfl
  | some b' =>
    have := sameNow_run hd e w
    rw [h w] at this; injection this with this; exact .inr (by rw [this])⟩
theorem eqK_run {κs : List Nat} (hk : keyK P t = some κs) {a b : A1} {u v : Value} {p : Bool} (he : eqK κs a b = some p) (hu : okA σ a u) (hv : okA σ b v) (w : World) : (Op.equal t u v).run P w = .ok p w := by
  obtain ⟨hF, _, hs⟩ := keyK_ok hk σ
  unfold eqK at he
  split at he
  · rcases hs with ⟨h3, _⟩ | ⟨_, h3⟩
    · obtain ⟨κ', e, h4⟩ := hF.one h3
      injection e with e; subst e
      exact EqR.run (h4 _ _ _ _ _ he hu hv) w
    · exact absurd rfl h3
  · cases he
  · rename_i a b h1
    rcases hs with ⟨_, κ, rfl⟩ | ⟨h3, _⟩
    · exact absurd rfl (h1 _)
    · cases hb : (lenIs a κs.length && lenIs b κs.length) with
      | false => rw [hb] at he; cases he
      | true =>
        rw [hb] at he
        rw [Bool.and_eq_true] at hb
        obtain ⟨vs, g1, rfl⟩ := hu
        obtain ⟨ws, g2, rfl⟩ := hv
        exact EqR.run ((hF.agg h3).2 _ _ _ _ _ (lenIs_ok hb.1) (lenIs_ok hb.2) he g1 g2) w
  · cases he
theorem eqC_same {κ : Nat} {a b : S} {u v : Value} (he : eqC κ a b = some true) (hu : okS σ a u) (hv : okS σ b v) : u = v ∧ ∀ m, Instr.sameBits m u u = true := by
  unfold eqC at he
  split at he
  · rename_i i a' j b'
    cases hu; cases hv
    cases hq : Nat.beq (kcode i) (kcode j) with
    | false => rw [hq] at he; cases he
    | true =>
      rw [hq] at he
      injection he with he
      have := kcode_inj hq; subst this
      rw [eqI_eq] at he
      have : a' = b' := by simpa using he
      subst this
      exact ⟨rfl, fun m => by cases m <;> simp [Instr.sameBits]⟩
  · rename_i a' b'
    cases hu; cases hv
    cases a' <;> cases b' <;> first | exact ⟨rfl, fun m => by cases m <;> rfl⟩ | (cases he; done)
  · rename_i s s'
    cases hu; cases hv
    injection he with he
    have : s = s' := by
      obtain ⟨s⟩ := s
      obtain ⟨s'⟩ := s'
      have e : s.toList = s'.toList := by simpa using he
      rw [Array.ext' e]
    subst this
    have e : (s == s) = true := by rw [bytes_beq]; simp
    exact ⟨rfl, fun m => by cases m <;> simp [Instr.sameBits, e]⟩
  · cases he
theorem eqL_same : ∀ {κs : List Nat} {l m : List S} {vs ws : List Value}, eqL κs l m = some true → l.length = κs.length → m.length = κs.length → All2 (okS σ) l vs → All2 (okS σ) m ws → vs = ws ∧ ∀ v ∈ vs, ∀ q, Instr.sameBits q v v = true
  | [], [], [], [], [], _, _, _, _, _ => ⟨rfl, by simp⟩
  | κ :: κs, l, m, vs, ws, h, h1, h2, h3, h4 => by
    obtain ⟨a, l', b, m', p1, p2, rfl, rfl, g1, g2, g3⟩ := eqL_cons h
    cases vs with
    | nil => exact h3.elim
    | cons v vs =>
      cases ws with
      | nil => exact h4.elim
      | cons w ws =>
        have e : p1 = true ∧ p2 = true := by simpa using g3.symm
        obtain ⟨rfl, rfl⟩ := e
        obtain ⟨rfl, k1⟩ := eqC_same g1 h3.1 h4.1
        obtain ⟨rfl, k2⟩ := eqL_same g2 (by simpa using h1) (by simpa using h2) h3.2 h4.2
        exact ⟨rfl, fun u hu => by rcases List.mem_cons.1 hu with rfl | hu <;> first | exact k1 | exact k2 u hu⟩
  | [], _ :: _, _, _, _, _, h, _, _, _ => by simp at h
  | [], [], _ :: _, _, _, _, _, h, _, _ => by simp at h
  | [], [], [], _ :: _, _, _, _, _, h, _ => h.elim
  | [], [], [], [], _ :: _, _, _, _, _, h => h.elim
theorem eqK_same {κs : List Nat} {a b : A1} {u v : Value} (he : eqK κs a b = some true) (hu : okA σ a u) (hv : okA σ b v) : u = v ∧ Instr.sameBits 10000 u u = true := by
  unfold eqK at he
  split at he
  · obtain ⟨h1, h2⟩ := eqC_same he hu hv
    exact ⟨h1, h2 _⟩
  · cases he
  · rename_i a b h1
    cases hb : (lenIs a κs.length && lenIs b κs.length) with
    | false => rw [hb] at he; cases he
    | true =>
      rw [hb] at he
      rw [Bool.and_eq_true] at hb
      obtain ⟨vs, g1, rfl⟩ := hu
      obtain ⟨ws, g2, rfl⟩ := hv
      obtain ⟨rfl, h2⟩ := eqL_same he (lenIs_ok hb.1) (lenIs_ok hb.2) g1 g2
      refine ⟨rfl, ?_⟩
      show Instr.sameBits (9999 + 1) _ _ = true
      simp only [Instr.sameBits, beq_self_eq_true, Bool.true_and, List.all_eq_true]
      intro p hp
      obtain ⟨i, hi, e⟩ := List.getElem_of_mem hp
      rw [List.getElem_zip] at e
      rw [← e]
      exact h2 _ (by simp) 9999
  · cases he
theorem findNow_or {dsc : TypeDesc} (hu : P.underlying t = some dsc) {u : Value} : ∀ (l1 : List MapEntry) (tl : List MapEntry) (i : Nat), (∀ e ∈ l1, KeyEq P t u e.key false) → Instr.findNow dsc u (l1 ++ tl) i = none ∨ Instr.findNow dsc u (l1 ++ tl) i = Instr.findNow dsc u tl (i + l1.length)
  | [], tl, i, _ => .inr rfl
  | e :: l1, tl, i, h => by
    rcases (h e (by simp)).2 dsc hu with h1 | h1
    · left; simp [Instr.findNow, h1]
    · rcases findNow_or hu l1 tl (i + 1) (fun e' he' => h e' (by simp [he'])) with h2 | h2
      · left; simp [Instr.findNow, h1, h2]
      · right; simp only [List.cons_append, Instr.findNow, h1, h2, List.length_cons]; congr 1; omega
theorem findAsking_skip {u : Value} (w : World) : ∀ (l1 : List MapEntry) (tl : List MapEntry) (i : Nat), (∀ e ∈ l1, KeyEq P t u e.key false) → (Instr.findAsking t u (l1 ++ tl) i).run P w = (Instr.findAsking t u tl (i + l1.length)).run P w
  | [], tl, i, _ => rfl
  | e :: l1, tl, i, h => by
    simp only [List.cons_append, Instr.findAsking, Sem.run_bind, (h e (by simp)).1 w, Result.andThen_ok, List.length_cons]
    simp only [Bool.false_eq_true, if_false]
    rw [findAsking_skip w l1 tl (i + 1) (fun e' he' => h e' (by simp [he']))]
    congr 2; omega
theorem findKey_none {dsc : TypeDesc} (hu : P.underlying t = some dsc) {u : Value} {l : List MapEntry} (h : ∀ e ∈ l, KeyEq P t u e.key false) (w : World) : (Instr.findKey t u l).run P w = .ok none w := by
  have h2 := findAsking_skip (P := P) w l [] 0 h
  rw [List.append_nil] at h2
  simp only [Instr.findKey, Sem.run_bind, run_underlying hu, Result.andThen_ok]
  rcases findNow_or hu l [] 0 h with h1 | h1
  · rw [List.append_nil] at h1; simp only [h1]; rw [h2]; simp [Instr.findAsking]
  · rw [List.append_nil] at h1; simp only [h1]; simp [Instr.findNow]
theorem findKey_some {dsc : TypeDesc} (hu : P.underlying t = some dsc) {u : Value} {l1 l2 : List MapEntry} {e : MapEntry} (h : ∀ e ∈ l1, KeyEq P t u e.key false) (he : KeyEq P t u e.key true) (w : World) : (Instr.findKey t u (l1 ++ e :: l2)).run P w = .ok (some (l1.length, e.val)) w := by
  have h2 := findAsking_skip (P := P) w l1 (e :: l2) 0 h
  have h3 : (Instr.findAsking t u (l1 ++ e :: l2) 0).run P w = .ok (some (l1.length, e.val)) w := by
    rw [h2]; simp [Instr.findAsking, Sem.run_bind, he.1 w]
  simp only [Instr.findKey, Sem.run_bind, run_underlying hu, Result.andThen_ok]
  rcases findNow_or hu l1 (e :: l2) 0 h with h1 | h1
  · simp only [h1]; exact h3
  · rcases he.2 dsc hu with h4 | h4
    · simp only [h1]; simp only [Instr.findNow, h4]; exact h3
    · simp only [h1]; simp [Instr.findNow, h4]
variable {κs : List Nat} {key : A1} {es : List (A1 × A1 × Nat)} {l : List MapEntry} {u : Value}
theorem findK_none (hk : keyK P t = some κs) (hu : okA σ key u) (w : World) : ∀ {es : List (A1 × A1 × Nat)} {l : List MapEntry}, findK κs key es = some none → All2 (MR σ) es l → ∀ e ∈ l, KeyEq P t u e.key false
  | [], [], _, _, e, he => by cases he
  | (k', v, b) :: es, a :: l, h, hm, e, he => by
    have h' : (match eqK κs key k' with | some true => some (some v) | some false => findK κs key es | none => none) = some none := h
    split at h'
    · cases h'
    · rename_i h1
      rcases List.mem_cons.1 he with rfl | he
      · exact .of_run (eqK_run hk h1 hu hm.1.1) w
      · exact findK_none hk hu w h' hm.2 e he
    · cases h'
  | [], _ :: _, _, h, _, _ => h.elim
  | _ :: _, [], _, h, _, _ => h.elim
theorem findK_some (hk : keyK P t = some κs) (hu : okA σ key u) (w : World) : ∀ {es : List (A1 × A1 × Nat)} {l : List MapEntry} {v : A1}, findK κs key es = some (some v) → All2 (MR σ) es l → ∃ l1 e l2, l = l1 ++ e :: l2 ∧ (∀ e ∈ l1, KeyEq P t u e.key false) ∧ KeyEq P t u e.key true ∧ okA σ v e.val
  | [], _, _, h, _ => by cases h
  | (k', v', b) :: es, a :: l, v, h, hm => by
    have h' : (match eqK κs key k' with | some true => some (some v') | some false => findK κs key es | none => none) = some (some v) := h
    split at h'
    · rename_i h1
      injection h' with h'; injection h' with h'; subst h'
      exact ⟨[], a, l, rfl, by simp, .of_run (eqK_run hk h1 hu hm.1.1) w, hm.1.2.1⟩
    · rename_i h1
      obtain ⟨l1, e, l2, rfl, h2, h3, h4⟩ := findK_some hk hu w h' hm.2
      refine ⟨a :: l1, e, l2, rfl, fun e' he' => ?_, h3, h4⟩
      rcases List.mem_cons.1 he' with rfl | he'
      · exact .of_run (eqK_run hk h1 hu hm.1.1) w
      · exact h2 e' he'
    · cases h'
  | _ :: _, [], _, _, h => h.elim
theorem updK_ok (hk : keyK P t = some κs) (hu : okA σ key u) {v : A1} {uv : Value} (hv : okA σ v uv) (w : World) : ∀ {es es' : List (A1 × A1 × Nat)} {l : List MapEntry}, updK κs key v es = some es' → All2 (MR σ) es l → ∃ l1 e l2, l = l1 ++ e :: l2 ∧ (∀ e ∈ l1, KeyEq P t u e.key false) ∧ KeyEq P t u e.key true ∧ e.key = u ∧ Instr.sameBits 10000 u u = true ∧ All2 (MR σ) es' (l1 ++ { e with key := u, val := uv } :: l2)
  | [], _, _, h, _ => by cases h
  | (k', v', b) :: es, es', a :: l, h, hm => by
    have h' : (match eqK κs key k' with | some true => some ((key, v, b) :: es) | some false => (match updK κs key v es with | some r => some ((k', v', b) :: r) | none => none) | none => none) = some es' := h
    split at h'
    · rename_i h1
      injection h' with h'; subst h'
      obtain ⟨h2, h3⟩ := eqK_same h1 hu hm.1.1
      exact ⟨[], a, l, rfl, by simp, .of_run (eqK_run hk h1 hu hm.1.1) w, h2.symm, h3, ⟨hu, hv, hm.1.2.2⟩, hm.2⟩
    · rename_i h1
      split at h'
      · rename_i es2 h2
        injection h' with h'; subst h'
        obtain ⟨l1, e, l2, rfl, h3, h4, h5, h6, h7⟩ := updK_ok hk hu hv w h2 hm.2
        refine ⟨a :: l1, e, l2, rfl, fun e' he' => ?_, h4, h5, h6, hm.1, h7⟩
        rcases List.mem_cons.1 he' with rfl | he'
        · exact .of_run (eqK_run hk h1 hu hm.1.1) w
        · exact h3 e' he'
      · cases h'
    · cases h'
  | _ :: _, _, [], _, h => h.elim
theorem delK_ok (hk : keyK P t = some κs) (hu : okA σ key u) (w : World) : ∀ {es es' : List (A1 × A1 × Nat)} {l : List MapEntry}, delK κs key es = some es' → All2 (MR σ) es l → (∃ l1 e l2, l = l1 ++ e :: l2 ∧ (∀ e ∈ l1, KeyEq P t u e.key false) ∧ KeyEq P t u e.key true ∧ All2 (MR σ) es' (l1 ++ l2)) ∨ ((∀ e ∈ l, KeyEq P t u e.key false) ∧ All2 (MR σ) es' l)
  | [], es', [], h, _ => by injection h with h; subst h; exact .inr ⟨by simp, trivial⟩
  | (k', v', b) :: es, es', a :: l, h, hm => by
    have h' : (match eqK κs key k' with | some true => some es | some false => (match delK κs key es with | some r => some ((k', v', b) :: r) | none => none) | none => none) = some es' := h
    split at h'
    · rename_i h1
      injection h' with h'; subst h'
      exact .inl ⟨[], a, l, rfl, by simp, .of_run (eqK_run hk h1 hu hm.1.1) w, hm.2⟩
    · rename_i h1
      have hne : KeyEq P t u a.key false := .of_run (eqK_run hk h1 hu hm.1.1) w
      split at h'
      · rename_i es2 h2
        injection h' with h'; subst h'
        rcases delK_ok hk hu w h2 hm.2 with ⟨l1, e, l2, rfl, h3, h4, h5⟩ | ⟨h3, h4⟩
        · refine .inl ⟨a :: l1, e, l2, rfl, fun e' he' => ?_, h4, hm.1, h5⟩
          rcases List.mem_cons.1 he' with rfl | he'
          · exact hne
          · exact h3 e' he'
        · refine .inr ⟨fun e' he' => ?_, hm.1, h4⟩
          rcases List.mem_cons.1 he' with rfl | he'
          · exact hne
          · exact h3 e' he'
      · cases h'
    · cases h'
  | [], _, _ :: _, _, h => h.elim
  | _ :: _, _, [], _, h => h.elim
end
end Go.Proofs.YtpcdcemcjbeajaaGreatDoor
set_option linter.unusedVariables false
set_option linter.unusedSimpArgs false
namespace Go.Proofs.YtpcdcemcjbeajaaGreatDoor
open Go.RowKit
section
variable {P : Program} {w0 : World} {B : List Nat} {f : Operand → Value} {σ : Sg} {nx : Nm} {h : Hp} {L : List Ent} {n : Nat} {env : En} {k : Kt} {dd : List D} {r : Rs}
variable {d : Option Nat} {ty : TypeId} {pos : String} {af : Array Edge} {g : Option (Nat × Bool)} {ih : Ih} {x y z : Operand} {t t' : TypeId}
theorem modify_at (e : MapEntry) (F : MapEntry → MapEntry) (l2 : List MapEntry) : ∀ l1 : List MapEntry, (l1 ++ e :: l2).toArray.modify l1.length F = (l1 ++ F e :: l2).toArray := fun l1 => by
  apply Array.ext'
  rw [Array.toList_modify]
  show (l1 ++ e :: l2).modify l1.length F = l1 ++ F e :: l2
  induction l1 with
  | nil => simp
  | cons a l1 ih => simpa using ih
theorem erase_at (e : MapEntry) (l2 : List MapEntry) (l1 : List MapEntry) : (l1 ++ e :: l2).toArray.eraseIdxIfInBounds l1.length = (l1 ++ l2).toArray := by
  unfold Array.eraseIdxIfInBounds
  rw [dif_pos (by simp)]
  apply Array.ext'
  simp [List.eraseIdx_append_of_length_le]
theorem setO_ok {m : Nm} {X Y : O} {b c : Nat} {ob' : Obj} (hH : HR σ nx h L) (hm : get8 m h = some X) (hb : σ m = some (b, c)) (hX : ∀ t r n ks, X ≠ .c t r n ks) (ho : OR σ c Y ob') {w : World} (hw : St w0 B w L) (hX2 : (∀ i, X ≠ .op i) ∧ ∀ l, X ≠ .tb l := by simp) :
    ∃ w' L', (setObj b ob').run P w = .ok () w' ∧ St w0 B w' L' ∧ HR σ nx (set8 m (some Y) h) L' := by
  obtain ⟨b', c', ob, h1, h2, h3⟩ := hH.own _ _ hm
  rw [hb] at h1; injection h1 with h1; injection h1 with e1 e2; subst e1 e2
  have hob := hw.own _ h2
  obtain ⟨L1, L2, rfl⟩ := mem_split h2
  have hne : ∀ cs e q, ob ≠ .cells cs e q := by
    intro cs e q
    cases X with
    | c t r n ks => exact absurd rfl (hX _ _ _ _)
    | m es clk => obtain ⟨l, _, rfl⟩ := h3; simp
    | it mm since seen last =>
      cases mm with
      | none => cases (show ob = _ from h3); simp
      | some mm => obtain ⟨_, _, _, rfl⟩ := h3; simp
    | lp e n env ps asg body => obtain ⟨_, _, _, _, _, rfl⟩ := h3; simp
    | dm => cases (show ob = _ from h3); simp
    | op i => exact absurd rfl (hX2.1 i)
    | tb l => exact absurd rfl (hX2.2 l)
  refine ⟨{ w with heap := w.heap.setIfInBounds b ob' }, _, ?_, hw.put ob' rfl rfl rfl rfl, hH.wr hm hb ho⟩
  simp only at hob
  cases ob <;> first | exact absurd rfl (hne _ _ _) | simp [setObj, Sem.run, hob]
theorem map_of {m : Nm} {b c : Nat} {es : List (A1 × A1 × Nat)} {clk : Nat} (hH : HR σ nx h L) (hm : get8 m h = some (.m es clk)) (hb : σ m = some (b, c)) : ∃ l, All2 (MR σ) es l ∧ (b, Obj.map l.toArray clk) ∈ L := by
  obtain ⟨b', c', ob, h1, h2, l, h3, rfl⟩ := hH.own _ _ hm
  rw [hb] at h1; injection h1 with h1; injection h1 with e1 e2; subst e1 e2
  exact ⟨l, h3, h2⟩
theorem zeroA_ok {z : A1} (hz : zeroA P t = some z) (σ : Sg) : ∃ v, okA σ z v ∧ ∀ w, (zeroValue t).run P w = .ok v w := by
  unfold zeroA at hz
  split at hz
  · rename_i i hi
    split at hz
    · rename_i v hv
      split at hz
      · rename_i s hs; injection hz with hz; subst hz
        exact ⟨v, constV_ok σ hs, fun w => by simp [zeroValue, typeInfo, hi, hv]⟩
      · rename_i s hs; injection hz with hz; subst hz
        exact ⟨v, constV_ok σ hs, fun w => by simp [zeroValue, typeInfo, hi, hv]⟩
      · cases hz
    · cases hz
  · cases hz
theorem lkR_ok {ok b : Bool} {a : A1} {v : V} {u : Value} (hl : lkR ok a b = some v) (ha : okA σ a u) : okV σ v (if ok then .tuple #[u, .bool b] else u) := by
  cases ok with
  | false => injection hl with hl; subst hl; exact okA_v ha
  | true => injection hl with hl; subst hl; exact ⟨[u, .bool b], ⟨ha, rfl, trivial⟩, rfl⟩
theorem does_lkp {kt el : TypeId} {κs : List Nat} {z' : A1} {ok : Bool} (hu : P.underlying t = some (.map kt el)) (hz : zeroA P el = some z') (hk : keyK P kt = some κs) (hH : HR σ nx h L) (hE : OpsOk σ n env f #[x, y]) (hr : r_lkp (dstP n d) κs z' ok (trA n x) (trA n y) ih k env h nx dd = r) (hg : good r) : Dn P w0 B f σ L n k env dd r ⟨d, .lookup t x y ok, ty, pos, af, g⟩ := by
  obtain ⟨key, h1, h2⟩ := onV_ok hr hg
  obtain ⟨kv, h3, h4⟩ := obind h1
  obtain ⟨h5, h6⟩ := keyV_ok h4 (hE y (by simp) _ h3)
  obtain ⟨zv, hz1, hz2⟩ := zeroA_ok hz σ
  obtain ⟨dk, hdk⟩ : ∃ dk, P.underlying kt = some dk := by
    unfold keyK aggT at hk
    cases e : P.underlying kt with
    | none => rw [e] at hk; cases hk
    | some dk => exact ⟨dk, rfl⟩
  split at h2
  · rename_i hx
    obtain ⟨v, h7, h8⟩ := onV_ok h2 hg
    have hs : f x = .map none := hE x (by simp) _ hx
    refine .val (v := v) hH (lkR_ok h7 hz1) h8 (fun w hw => ?_)
    simp [execOp, Instr.lookup, hs, Sem.run_bind, run_underlying hu, check_ok hk h6 h5, findKey_none (P := P) hdk (l := []) (by simp), hz2]
  · rename_i m hx
    obtain ⟨es, clk, h7, h8⟩ := onM_ok h2 hg
    obtain ⟨r1, h9, h10⟩ := onV_ok h8 hg
    obtain ⟨b, c, h11, hs⟩ := (show okX σ (.m m) (f x) from hE x (by simp) _ hx)
    obtain ⟨l, h12, h13⟩ := map_of hH h7 h11
    cases r1 with
    | none =>
      obtain ⟨v, h14, h15⟩ := onV_ok h10 hg
      refine .val (v := v) hH (lkR_ok h14 hz1) h15 (fun w hw => ?_)
      have hb := hw.own _ h13
      simp [execOp, Instr.lookup, hs, Sem.run_bind, run_underlying hu, getObj_ok hb (by simp), check_ok hk h6 h5, findKey_none (P := P) hdk (findK_none hk h5 w h9 h12), hz2]
    | some v1 =>
      obtain ⟨v, h14, h15⟩ := onV_ok h10 hg
      obtain ⟨l1, e, l2, rfl, h16, h17, h18⟩ := findK_some (P := P) hk h5 (w := w0) h9 h12
      refine .val (v := v) hH (lkR_ok h14 h18) h15 (fun w hw => ?_)
      have hb := hw.own _ h13
      simp [execOp, Instr.lookup, hs, Sem.run_bind, run_underlying hu, getObj_ok hb (by simp), check_ok hk h6 h5, findKey_some (P := P) hdk h16 h17]
  · subst h2; exact good_bad hg
theorem underK {kt : TypeId} {κs : List Nat} (hk : keyK P kt = some κs) : ∃ dk, P.underlying kt = some dk := by
  unfold keyK aggT at hk
  cases e : P.underlying kt with
  | none => rw [e] at hk; cases hk
  | some dk => exact ⟨dk, rfl⟩
theorem does_mup {kt el : TypeId} {κs : List Nat} {op : Op} (hop : op = .mapUpdate t x y z ∨ op = .insert t x y z) (hu : P.underlying t = some (.map kt el)) (hk : keyK P kt = some κs) (hH : HR σ nx h L) (hE : OpsOk σ n env f #[x, y, z]) (hr : r_mup (dstP n d) κs (trA n x) (trA n y) (trA n z) ih k env h nx dd = r) (hg : good r) : Dn P w0 B f σ L n k env dd r ⟨d, op, ty, pos, af, g⟩ := by
  obtain ⟨key, h1, h2⟩ := onV_ok hr hg
  obtain ⟨kv, h3, h4⟩ := obind h1
  obtain ⟨h5, h6⟩ := keyV_ok h4 (hE y (by simp) _ h3)
  obtain ⟨v, g1, g2⟩ := onV_ok h2 hg
  obtain ⟨vv, g3, g4⟩ := obind g1
  have g5 := v1_ok g4 (hE z (by simp) _ g3)
  obtain ⟨dk, hdk⟩ := underK hk
  have hop' : ∀ w, (execOp f ⟨d, op, ty, pos, af, g⟩).run P w = (execOp f ⟨d, .mapUpdate t x y z, ty, pos, af, g⟩).run P w := fun w => by rcases hop with rfl | rfl <;> rfl
  split at g2
  · rename_i m hx
    obtain ⟨es, clk, h7, h8⟩ := onM_ok g2 hg
    obtain ⟨r1, h9, h10⟩ := onV_ok h8 hg
    obtain ⟨b, c, h11, hs⟩ := (show okX σ (.m m) (f x) from hE x (by simp) _ hx)
    obtain ⟨l, h12, h13⟩ := map_of hH h7 h11
    intro w hw
    have hb := hw.own _ h13
    cases r1 with
    | none =>
      have hM : OR σ c (.m (es ++ [(key, v, clk)]) (clk + 1)) (.map (l ++ [({ key := f y, val := f z, born := clk } : MapEntry)]).toArray (clk + 1)) := ⟨_, h12.append (m' := [_]) ⟨⟨h5, g5, rfl⟩, trivial⟩, rfl⟩
      obtain ⟨w', L', k1, k2, k3⟩ := setO_ok (P := P) hH h7 h11 (by simp) hM hw
      refine ⟨σ, .t [], undef, _, nx, w', L', Sg.le.refl σ, ⟨[], trivial, rfl⟩, k3, h10, .inr ⟨?_, rfl⟩, k2, fun h => by rcases hop with rfl | rfl <;> exact Bool.noConfusion (show false = true from h)⟩
      rw [hop']
      have e : l.toArray.push ({ key := f y, val := f z, born := clk } : MapEntry) = (l ++ [({ key := f y, val := f z, born := clk } : MapEntry)]).toArray := by simp
      simp only [execOp, Instr.mapUpdate, hs, Sem.run_bind, run_underlying hu, Result.andThen_ok, getObj_ok hb (by simp), check_ok hk h6 h5, findKey_none (P := P) hdk (findK_none hk h5 w h9 h12), e, k1, Sem.run_pure]
    | some v1 =>
      obtain ⟨es', k0, k1⟩ := onV_ok h10 hg
      obtain ⟨l1, e, l2, rfl, h16, h17, h18, h19, h20⟩ := updK_ok (P := P) hk h5 g5 w k0 h12
      have hM : OR σ c (.m es' clk) (.map (l1 ++ ({ e with key := f y, val := f z } : MapEntry) :: l2).toArray clk) := ⟨_, h20, rfl⟩
      obtain ⟨w', L', k2, k3, k4⟩ := setO_ok (P := P) hH h7 h11 (by simp) hM hw
      refine ⟨σ, .t [], undef, _, nx, w', L', Sg.le.refl σ, ⟨[], trivial, rfl⟩, k4, k1, .inr ⟨?_, rfl⟩, k3, fun h => by rcases hop with rfl | rfl <;> exact Bool.noConfusion (show false = true from h)⟩
      rw [hop']
      have e1 : ((((l1 ++ e :: l2).toArray[l1.length]?).map (·.key)).getD (f y)) = f y := by simp [h18]
      have e2 := modify_at e (fun (e : MapEntry) => { e with key := f y, val := f z }) l2 l1
      simp only [execOp, Instr.mapUpdate, hs, Sem.run_bind, run_underlying hu, Result.andThen_ok, getObj_ok hb (by simp), check_ok hk h6 h5, findKey_some (P := P) hdk h16 h17, e1, Instr.keyThatStays, h19, if_true, Sem.run_pure, e2, k2]
  · subst g2; exact good_bad hg
theorem does_del {kt el : TypeId} {κs : List Nat} {ts : Array TypeId} (ht : ts[0]? = some t) (hu : P.underlying t = some (.map kt el)) (hk : keyK P kt = some κs) (hH : HR σ nx h L) (hE : OpsOk σ n env f #[x, y]) (hr : r_del (dstP n d) κs (trA n x) (trA n y) ih k env h nx dd = r) (hg : good r) : Dn P w0 B f σ L n k env dd r ⟨d, .call ⟨.builtin .delete, #[x, y], ts⟩, ty, pos, af, g⟩ := by
  obtain ⟨key, h1, h2⟩ := onV_ok hr hg
  obtain ⟨kv, h3, h4⟩ := obind h1
  obtain ⟨h5, h6⟩ := keyV_ok h4 (hE y (by simp) _ h3)
  obtain ⟨dk, hdk⟩ := underK hk
  split at h2
  · rename_i m hx
    obtain ⟨es, clk, h7, h8⟩ := onM_ok h2 hg
    obtain ⟨es', h9, h10⟩ := onV_ok h8 hg
    obtain ⟨b, c, h11, hs⟩ := (show okX σ (.m m) (f x) from hE x (by simp) _ hx)
    obtain ⟨l, h12, h13⟩ := map_of hH h7 h11
    intro w hw
    have hb := hw.own _ h13
    rcases delK_ok (P := P) hk h5 w h9 h12 with ⟨l1, e, l2, rfl, h16, h17, h18⟩ | ⟨h16, h17⟩
    · have hM : OR σ c (.m es' clk) (.map (l1 ++ l2).toArray clk) := ⟨_, h18, rfl⟩
      obtain ⟨w', L', k2, k3, k4⟩ := setO_ok (P := P) hH h7 h11 (by simp) hM hw
      refine ⟨σ, .t [], .tuple #[], _, nx, w', L', Sg.le.refl σ, ⟨[], trivial, rfl⟩, k4, h10, .inl ?_, k3, fun h => Bool.noConfusion (show false = true from h)⟩
      have e2 := erase_at e l2 l1
      simp [execOp, resolve, invoke, builtin, Builtin.delete_, ht, hs, Sem.run_bind, run_underlying hu, getObj_ok hb (by simp), check_ok hk h6 h5, findKey_some (P := P) hdk h16 h17, -List.eraseIdxIfInBounds_toArray, e2, k2]
    · have hM : OR σ c (.m es' clk) (.map l.toArray clk) := ⟨_, h17, rfl⟩
      obtain ⟨w', L', k2, k3, k4⟩ := setO_ok (P := P) hH h7 h11 (by simp) hM hw
      refine ⟨σ, .t [], .tuple #[], _, nx, w', L', Sg.le.refl σ, ⟨[], trivial, rfl⟩, k4, h10, .inl ?_, k3, fun h => Bool.noConfusion (show false = true from h)⟩
      simp [execOp, resolve, invoke, builtin, Builtin.delete_, ht, hs, Sem.run_bind, run_underlying hu, getObj_ok hb (by simp), check_ok hk h6 h5, findKey_none (P := P) hdk h16, k2]
  · subst h2; exact good_bad hg
theorem does_mkm (hH : HR σ nx h L) (hr : r_mkm (dstP n d) ih k env h nx dd = r) (hg : good r) : Dn P w0 B f σ L n k env dd r ⟨d, .makeMap t none, ty, pos, af, g⟩ := by
  obtain ⟨nx', h1, h2⟩ := newK_ok hr hg
  exact .new (O' := .m [] 0) (cap := 0) (ob := .map #[] 0) (val := fun b => .map (some b)) hH h1 ⟨[], trivial, rfl⟩ h2 (fun b => ⟨b, 0, Sg.ext_same _ _, rfl⟩) (fun w _ => by simp [execOp, Instr.makeMap, Sem.run_bind])
theorem does_rng {kt el : TypeId} (hu : P.underlying t = some (.map kt el)) (hH : HR σ nx h L) (hE : OpsOk σ n env f #[x]) (hr : r_rng (dstP n d) (trA n x) ih k env h nx dd = r) (hg : good r) : Dn P w0 B f σ L n k env dd r ⟨d, .range t x, ty, pos, af, g⟩ := by
  have hr' := hr
  unfold r_rng at hr'
  split at hr'
  · rename_i hx
    obtain ⟨nx', h1, h2⟩ := newK_ok hr' hg
    have hs : f x = .map none := hE x (by simp) _ hx
    exact .new (O' := .it none 0 [] 0) (cap := 0) (ob := .mapIter none 0 #[] 0) (val := fun b => .pointer (some ⟨b, 0, none⟩)) hH h1 rfl h2 (fun b => okV_new b 0) (fun w _ => by simp [execOp, Instr.range, hs, Sem.run_bind, run_underlying hu])
  · rename_i m hx
    obtain ⟨es, clk, h7, h8⟩ := onM_ok hr' hg
    obtain ⟨nx', h1, h2⟩ := newK_ok h8 hg
    obtain ⟨b, c, h11, hs⟩ := (show okX σ (.m m) (f x) from hE x (by simp) _ hx)
    obtain ⟨l, h12, h13⟩ := map_of hH h7 h11
    exact .new (O' := .it (some m) clk [] clk) (cap := 0) (ob := .mapIter (some b) clk #[] clk) (val := fun b => .pointer (some ⟨b, 0, none⟩)) hH h1 ⟨b, c, h11, rfl⟩ h2 (fun b => okV_new b 0) (fun w hw => by
      have hb := hw.own _ h13
      simp [execOp, Instr.range, hs, Sem.run_bind, run_underlying hu, getObj_ok hb (by simp)])
  · subst hr'; exact good_bad hg
theorem choose_1 : (Question.mapNext 1).forced = true := rfl
theorem does_nxt (hH : HR σ nx h L) (hE : OpsOk σ n env f #[x]) (hr : r_nxt (dstP n d) (trA n x) ih k env h nx dd = r) (hg : good r) : Dn P w0 B f σ L n k env dd r ⟨d, .next x false, ty, pos, af, g⟩ := by
  obtain ⟨m, o, h1, h2⟩ := onP_ok hr hg
  obtain ⟨h3, h4⟩ := cond_ok h2 hg
  have := Nat.eq_of_beq_eq_true h3; subst this
  obtain ⟨b, c, h5, hs⟩ := okV_p (hE x (by simp) _ h1)
  have over : okV σ (.t [.s (.b false)]) (.tuple #[.bool false]) := ⟨[.bool false], ⟨rfl, trivial⟩, rfl⟩
  split at h4
  · rename_i since seen last h6
    obtain ⟨b', c', ob, g1, g2, g3⟩ := hH.own _ _ h6
    rw [h5] at g1; injection g1 with g1; injection g1 with e1 e2; subst e1 e2
    cases (show ob = _ from g3)
    refine .val hH over h4 (fun w hw => ?_)
    have hb := hw.own _ g2
    simp [execOp, Instr.next, hs, Sem.run_bind, getObj_ok hb (by simp)]
  · rename_i mm since seen last h6
    obtain ⟨b', c', ob, g1, g2, bm, cm, g4, rfl⟩ := hH.own _ _ h6
    rw [h5] at g1; injection g1 with g1; injection g1 with e1 e2; subst e1 e2
    split at h4
    · rename_i clk h7
      obtain ⟨l, g5, g6⟩ := map_of hH h7 g4
      cases l with
      | cons => exact g5.elim
      | nil =>
        refine .val hH over h4 (fun w hw => ?_)
        have hb := hw.own _ g2
        have hbm := hw.own _ g6
        simp [execOp, Instr.next, hs, Sem.run_bind, getObj_ok hb (by simp), getObj_ok hbm (by simp), choose_1]
    · rename_i key v bn clk h7
      obtain ⟨l, g5, g6⟩ := map_of hH h7 g4
      cases l with
      | nil => exact g5.elim
      | cons e l =>
        cases l with
        | cons => exact g5.2.elim
        | nil =>
          obtain ⟨k1, k2, k3⟩ := g5.1
          simp only at k1 k2 k3
          split at h4
          · obtain ⟨h8, h9⟩ := cond_ok h4 hg
            have h8 := blt_lt h8
            intro w hw
            have hb := hw.own _ g2
            have hbm := hw.own _ g6
            obtain ⟨w', L', j1, j2, j3⟩ := setO_ok (P := P) (Y := .it (some mm) since [bn] clk) (ob' := .mapIter (some bm) since #[bn] clk) hH h6 h5 (by simp) ⟨bm, cm, g4, rfl⟩ hw
            refine ⟨σ, .t [.s (.b true), key, v], .tuple #[.bool true, e.key, e.val], _, nx, w', L', Sg.le.refl σ, ⟨[.bool true, e.key, e.val], ⟨rfl, k1, k2, trivial⟩, rfl⟩, j3, h9, .inl ?_, j2, fun h => Bool.noConfusion (show false = true from h)⟩
            have h10 : e.born < since := by rw [k3]; exact h8
            simp [execOp, Instr.next, hs, Sem.run_bind, getObj_ok hb (by simp), getObj_ok hbm (by simp), h10, choose_1, k3, j1, Nat.not_le.2 h8, h8]
          · rename_i b'
            obtain ⟨h8, h9⟩ := cond_ok h4 hg
            rw [Bool.and_eq_true] at h8
            have h10 := Nat.eq_of_beq_eq_true h8.1
            have h11 := blt_lt h8.2
            refine .val hH over h9 (fun w hw => ?_)
            have hb := hw.own _ g2
            have hbm := hw.own _ g6
            have h12 : ¬ (last ≤ e.born) := by rw [k3]; omega
            have h13 : e.born = b' := by rw [k3, h10]
            have h14 : b' < last := by rw [← h10]; exact h11
            simp [execOp, Instr.next, hs, Sem.run_bind, getObj_ok hb (by simp), getObj_ok hbm (by simp), h12, h13, h14, choose_1]
          · subst h4; exact good_bad hg
    · subst h4; exact good_bad hg
  · subst h4; exact good_bad hg
theorem does_ent (hH : HR σ nx h L) (hE : OpsOk σ n env f #[x]) (hr : r_ent (dstP n d) (trA n x) ih k env h nx dd = r) (hg : good r) : Dn P w0 B f σ L n k env dd r ⟨d, .entry x, ty, pos, af, g⟩ := by
  obtain ⟨m, o, h1, h2⟩ := onP_ok hr hg
  obtain ⟨h3, h4⟩ := cond_ok h2 hg
  have := Nat.eq_of_beq_eq_true h3; subst this
  obtain ⟨b, c, h5, hs⟩ := okV_p (hE x (by simp) _ h1)
  split at h4
  · rename_i mm since b' last h6
    obtain ⟨bb, c', ob, g1, g2, bm, cm, g4, rfl⟩ := hH.own _ _ h6
    rw [h5] at g1; injection g1 with g1; injection g1 with e1 e2; subst e1 e2
    split at h4
    · rename_i key v bn clk h7
      obtain ⟨l, g5, g6⟩ := map_of hH h7 g4
      obtain ⟨h8, h9⟩ := cond_ok h4 hg
      rw [Bool.and_eq_true] at h8
      have h10 := Nat.eq_of_beq_eq_true h8.1
      have h11 := Nat.eq_of_beq_eq_true h8.2
      subst h10 h11
      cases l with
      | nil => exact g5.elim
      | cons e l =>
        cases l with
        | cons => exact g5.2.elim
        | nil =>
          obtain ⟨k1, k2, k3⟩ := g5.1
          simp only at k1 k2 k3
          refine .val (v := .t [key, v]) (x := .tuple #[e.key, e.val]) hH ⟨[e.key, e.val], ⟨k1, k2, trivial⟩, rfl⟩ h9 (fun w hw => ?_)
          have hb := hw.own _ g2
          have hbm := hw.own _ g6
          simp [execOp, Instr.entry, hs, Sem.run_bind, getObj_ok hb (by simp), getObj_ok hbm (by simp), k3]
    · subst h4; exact good_bad hg
  · subst h4; exact good_bad hg
theorem does_mif {kt el : TypeId} (hu : P.underlying t = some (.map kt el)) (hH : HR σ nx h L) (hE : OpsOk σ n env f #[x]) (hr : r_mif (dstP n d) t (trA n x) ih k env h nx dd = r) (hg : good r) : Dn P w0 B f σ L n k env dd r ⟨d, .makeInterface t x, ty, pos, af, g⟩ := by
  have hr' := hr
  unfold r_mif at hr'
  split at hr'
  · rename_i m hx
    obtain ⟨b, c, h11, hs⟩ := (show okX σ (.m m) (f x) from hE x (by simp) _ hx)
    exact .val (v := .s (.x (.im t m))) (x := .iface t (.map (some b))) hH ⟨b, c, h11, rfl⟩ hr' (fun w hw => by simp [execOp, Instr.makeInterface, hs, Sem.run_bind, run_underlying hu])
  · subst hr'; exact good_bad hg
theorem does_tas {kt el : TypeId} {ok : Bool} (hu : P.underlying t = some (.map kt el)) (hH : HR σ nx h L) (hE : OpsOk σ n env f #[x]) (hr : r_tas (dstP n d) t ok (trA n x) ih k env h nx dd = r) (hg : good r) : Dn P w0 B f σ L n k env dd r ⟨d, .typeAssert x t' t ok, ty, pos, af, g⟩ := by
  have hr' := hr
  unfold r_tas at hr'
  split at hr'
  · rename_i tt m hx
    obtain ⟨b, c, h11, hs⟩ := (show okX σ (.im tt m) (f x) from hE x (by simp) _ hx)
    obtain ⟨h1, h2⟩ := cond_ok hr' hg
    have := Nat.eq_of_beq_eq_true h1; subst this
    obtain ⟨v, h3, h4⟩ := onV_ok h2 hg
    refine .val (v := v) (x := if ok then .tuple #[.map (some b), .bool true] else .map (some b)) hH (lkR_ok (σ := σ) h3 ⟨b, c, h11, rfl⟩) h4 (fun w hw => by simp [execOp, Instr.typeAssert, hs, Sem.run_bind, run_underlying hu])
  · subst hr'; exact good_bad hg
end
end Go.Proofs.YtpcdcemcjbeajaaGreatDoor
set_option linter.unusedVariables false
set_option linter.unusedSimpArgs false
namespace Go.Proofs.YtpcdcemcjbeajaaGreatDoor
open Go.RowKit
section
variable {P : Program} {w0 : World} {B : List Nat} {f : Operand → Value} {σ : Sg} {nx : Nm} {h : Hp} {L : List Ent} {n : Nat} {env : En} {k : Kt} {dd : List D} {r : Rs}
variable {d : Option Nat} {ty : TypeId} {pos : String} {af : Array Edge} {g : Option (Nat × Bool)} {ih : Ih} {x y z : Operand} {t t' : TypeId}
theorem bytesL_cons (s : S) (l : List S) : bytesL (s :: l) = (match s, bytesL l with | .i .u8 (.ofNat n), some l => some (UInt8.ofNat n :: l) | _, _ => none) := rfl
theorem bs_loop (w : World) : ∀ (ys : List S) (vs : List Value) (bs : List UInt8) (s : ByteArray), All2 (okS σ) ys vs → bytesL ys = some bs → (forIn vs s fun c (s' : ByteArray) => (match c with
    | Value.int IntKind.u8 n => pure (ForInStep.yield (s'.push (UInt8.ofNat n.toNat)))
    | x => do
      stuck "bytesToString: byte expected"
      pure (ForInStep.yield s') : Sem (ForInStep ByteArray))).run P w = .ok (ByteArray.mk (s.data ++ bs.toArray)) w
  | [], [], bs, s, _, hb => by injection hb with hb; subst hb; simp
  | y :: ys, v :: vs, bs, s, h, hb => by
    rw [bytesL_cons] at hb
    split at hb
    · rename_i q l hl
      injection hb with hb; subst hb
      cases (show v = .int .u8 _ from h.1)
      simp only [List.forIn_cons, Sem.run_bind, Sem.run_pure, Result.andThen_ok]
      refine (bs_loop w ys vs l _ h.2 hl).trans ?_
      congr 2
      show (s.data.push _) ++ _ = _
      simp
    · cases hb
  | [], _ :: _, _, _, h, _ => h.elim
  | _ :: _, [], _, _, h, _ => h.elim
theorem cvBS_run {m : Nat} {v : V} {ys : List S} {bs : List UInt8} {u : Value} (hH : HR σ nx h L) (hr : rdS 1 h v = some (m, ys)) (hb : bytesL ys = some bs) (ho : okV σ v u) {w : World} (hw : St w0 B w L) : (Conv.bytesToString u).run P w = .ok (.string (ByteArray.mk bs.toArray)) w := by
  obtain ⟨vs, h1, h2, h3, h4⟩ := rdS_ok (P := P) (w0 := w0) (B := B) hH hr ho
  have h5 := h4 w hw
  unfold rdS at hr
  split at hr
  · injection hr with hr; injection hr with e1 e2; subst e1 e2
    injection hb with hb; subst hb
    cases (show u = .slice none 0 0 from ho)
    rfl
  · injection hr with hr; injection hr with e1 e2; subst e1 e2
    injection hb with hb; subst hb
    obtain ⟨a, c, rfl⟩ := (show okX σ .se u from ho)
    simp [Conv.bytesToString, loadCells, loadCellsFrom, Sem.run_bind]
    rfl
  · rename_i nm o len _ _
    obtain ⟨bb, cp, cc, h6, rfl, _, _⟩ := okV_l ho
    have hm : m = len := by
      split at hr
      · split at hr
        · injection hr with hr; injection hr with e1 e2; exact e1.symm
        · cases hr
      · cases hr
    subst hm
    clear hr h4
    simp only [Builtin.firstCells, Nat.mul_one] at h5
    simp only [Conv.bytesToString, Sem.run_bind, h5, Result.andThen_ok]
    rw [← Array.forIn_toList]
    simp only
    refine (congrArg (fun r => Result.andThen r _) (bs_loop w ys vs bs ByteArray.empty h1 hb)).trans ?_
    simp [ByteArray.empty, ByteArray.emptyWithCapacity]; rfl
  · cases hr
theorem does_cvBS {e : TypeId} (hs : P.underlying t = some (.slice e)) (hd : P.underlying t' = some .string) (he : P.underlying e = some (.int .u8)) (hH : HR σ nx h L) (hE : OpsOk σ n env f #[x]) (hr : r_cvBS (dstP n d) (trA n x) ih k env h nx dd = r) (hg : good r) : Dn P w0 B f σ L n k env dd r ⟨d, .convert t t' x, ty, pos, af, g⟩ := by
  obtain ⟨p, h1, h2⟩ := onV_ok hr hg
  obtain ⟨bs, h3, h4⟩ := onV_ok h2 hg
  obtain ⟨v, h5, h6⟩ := obind h1
  obtain ⟨m, ys⟩ := p
  have hx := hE x (by simp) _ h5
  refine .val (v := .s (.x (.str (ByteArray.mk bs.toArray)))) (x := .string (ByteArray.mk bs.toArray)) hH rfl h4 (fun w hw => ?_)
  have hc := cvBS_run (P := P) hH h6 h3 hx hw
  have hnot : ∃ a l c, f x = .slice a l c := by
    unfold rdS at h6
    split at h6
    · exact ⟨_, _, _, hx⟩
    · obtain ⟨a, c, e⟩ := (show okX σ .se (f x) from hx); exact ⟨_, _, _, e⟩
    · obtain ⟨bb, cp, cc, _, e, _, _⟩ := okV_l hx; exact ⟨_, _, _, e⟩
    · cases h6
  obtain ⟨a, l, c, e'⟩ := hnot
  rw [e'] at hc
  simp [execOp, convert, e', Sem.run_bind, run_underlying hs, run_underlying hd, run_underlying he, hc]
theorem rl_dfr {c : Cx} {ol rest : List Oper} {K : Ko} {Qp : Po} {ρ : Env} {ds : Ds} {ts : Array TypeId} (hq : c.q = false) (hrd : c.rd = none) (hw : wantE c.n ol ρ ⟨d, .defer ⟨.value x, #[], ts⟩, ty, pos, af, g⟩ = true)
    (hH : HR σ nx h L) (hds : All2 (DR σ) dd ds) (hE : OpsOk σ c.n env (evE c.n ρ) #[x]) (hr : r_dfr (dstP c.n d) (trA c.n x) ih k env h nx dd = r) (hg : good r) (hk : Cont c ol rest ⟨d, .defer ⟨.value x, #[], ts⟩, ty, pos, af, g⟩ K Qp ρ σ k env r dd ds) : RL c ol (⟨d, .defer ⟨.value x, #[], ts⟩, ty, pos, af, g⟩ :: rest) K Qp ρ ds L := by
  unfold r_dfr at hr
  split at hr
  · rename_i g' caps hx
    obtain ⟨vs, h1, h2⟩ := hE x (by simp) _ hx
    have h3 := hk σ (.t []) undef h nx (.cl g' caps :: dd) ({ target := .fn (.func g') vs.toArray, args := #[] } :: ds) L (Sg.le.refl σ) ⟨[], trivial, rfl⟩ hH ⟨⟨vs, h1, rfl⟩, hds⟩ (fun h => Bool.noConfusion (show false = true from h)) hr
    rw [RL_f hq] at h3 ⊢
    intro w hst
    simp only [wpListIn]
    rw [want_act, hw, if_pos rfl]
    refine ⟨fun f _ => FR_fn _ _, ?_⟩
    have e : (FR c.rd).round = none := hrd
    have hr : (execOp (evE c.n ρ) ⟨d, .defer ⟨.value x, #[], ts⟩, ty, pos, af, g⟩).run c.P w = .ok (.defer { target := .fn (.func g') vs.toArray, args := #[] }) w := by
      simp [execOp, resolve, h2, Deferred.ofValue, Sem.run_bind]
    rw [e, Oper.semAt_none, act_eval, hr]
    simp only [Oper.uponIn]
    have := h3 w hst
    have e2 := act_put c.n ρ ({ target := .fn (.func g') vs.toArray, args := #[] } :: ds) d undef
    show wpListIn _ _ _ _ _ rest _ w
    rw [← e2] at this
    exact this
  · subst hr; exact good_bad hg
end
end Go.Proofs.YtpcdcemcjbeajaaGreatDoor
set_option linter.unusedVariables false
set_option linter.unusedSimpArgs false
namespace Go.Proofs.YtpcdcemcjbeajaaGreatDoor
open Go.RowKit
section
variable {P : Program} {w0 : World} {B : List Nat} {f : Operand → Value} {σ : Sg} {nx : Nm} {h h' : Hp} {L : List Ent} {n : Nat} {env : En} {k : Kt} {dd : List D} {r : Rs}
variable {d : Option Nat} {ty : TypeId} {pos : String} {af : Array Edge} {g : Option (Nat × Bool)} {ih : Ih} {x y z : Operand} {t t' : TypeId}
theorem condE {α : Type} {b : Bool} {u v : Option α} {w : α} (h : cond b u v = some w) : (b = true ∧ u = some w) ∨ v = some w := by
  cases b with
  | true => exact .inl ⟨rfl, h⟩
  | false => exact .inr h
theorem condB {b u v : Bool} (h : cond b u v = true) : (b = true ∧ u = true) ∨ v = true := by
  cases b with
  | true => exact .inl ⟨rfl, h⟩
  | false => exact .inr h
theorem findX_ok {j l : Nat} : ∀ {tb : List TbE}, findX j l tb = true → TbE.ix j l ∈ tb := by
  intro tb
  induction tb with
  | nil => intro h; cases h
  | cons e tb ih =>
    intro h
    cases e with
    | ix a b =>
      rcases condB (show cond (Nat.beq a j) (cond (Nat.beq b l) true (findX j l tb)) (findX j l tb) = true from h) with ⟨h1, h⟩ | h
      · rcases condB h with ⟨h2, _⟩ | h
        · rw [Nat.eq_of_beq_eq_true h1, Nat.eq_of_beq_eq_true h2]; exact List.mem_cons_self
        · exact List.mem_cons_of_mem _ (ih h)
      · exact List.mem_cons_of_mem _ (ih h)
    | _ => exact List.mem_cons_of_mem _ (ih h)
theorem findL_ok {i j sz o s : Nat} {cs : List S} : ∀ {tb : List TbE}, findL i j sz o s tb = some cs → TbE.ld i j sz o cs ∈ tb ∧ lenIs cs s = true := by
  intro tb
  induction tb with
  | nil => intro h; cases h
  | cons e tb ih =>
    intro h
    have up : findL i j sz o s tb = some cs → TbE.ld i j sz o cs ∈ e :: tb ∧ lenIs cs s = true := fun h => ⟨List.mem_cons_of_mem _ (ih h).1, (ih h).2⟩
    cases e with
    | ld a b c q l =>
      rcases condE (show cond (Nat.beq a i) (cond (Nat.beq b j) (cond (Nat.beq c sz) (cond (Nat.beq q o) (cond (lenIs l s) (some l) (findL i j sz o s tb)) (findL i j sz o s tb)) (findL i j sz o s tb)) (findL i j sz o s tb)) (findL i j sz o s tb) = some cs from h) with ⟨h1, h⟩ | h
      · rcases condE h with ⟨h2, h⟩ | h
        · rcases condE h with ⟨h3, h⟩ | h
          · rcases condE h with ⟨h4, h⟩ | h
            · rcases condE h with ⟨h5, h⟩ | h
              · injection h with h; subst h
                rw [Nat.eq_of_beq_eq_true h1, Nat.eq_of_beq_eq_true h2, Nat.eq_of_beq_eq_true h3, Nat.eq_of_beq_eq_true h4]; exact ⟨List.mem_cons_self, h5⟩
              · exact up h
            · exact up h
          · exact up h
        · exact up h
      · exact up h
    | _ => exact up h
theorem findS_ok {i j sz o i' : Nat} {cs : List S} : ∀ {tb : List TbE}, findS i j sz o cs tb = some i' → TbE.st i j sz o cs i' ∈ tb := by
  intro tb
  induction tb with
  | nil => intro h; cases h
  | cons e tb ih =>
    intro h
    have up : findS i j sz o cs tb = some i' → TbE.st i j sz o cs i' ∈ e :: tb := fun h => List.mem_cons_of_mem _ (ih h)
    cases e with
    | st a b c q l z =>
      rcases condE (show cond (Nat.beq a i) (cond (Nat.beq b j) (cond (Nat.beq c sz) (cond (Nat.beq q o) (cond (beqL l cs) (some z) (findS i j sz o cs tb)) (findS i j sz o cs tb)) (findS i j sz o cs tb)) (findS i j sz o cs tb)) (findS i j sz o cs tb) = some i' from h) with ⟨h1, h⟩ | h
      · rcases condE h with ⟨h2, h⟩ | h
        · rcases condE h with ⟨h3, h⟩ | h
          · rcases condE h with ⟨h4, h⟩ | h
            · rcases condE h with ⟨h5, h⟩ | h
              · injection h with h; subst h
                rw [Nat.eq_of_beq_eq_true h1, Nat.eq_of_beq_eq_true h2, Nat.eq_of_beq_eq_true h3, Nat.eq_of_beq_eq_true h4, beqL_eq h5]; exact List.mem_cons_self
              · exact up h
            · exact up h
          · exact up h
        · exact up h
      · exact up h
    | _ => exact up h
theorem findA_ok {i l m e0 s0 : Nat} {cs : List S} {q : Nat × Nat} : ∀ {tb : List TbE}, findA i l m e0 s0 cs tb = some q → TbE.ap i l cs m e0 s0 q.1 q.2 ∈ tb := by
  intro tb
  induction tb with
  | nil => intro h; cases h
  | cons e tb ih =>
    intro h
    have up : findA i l m e0 s0 cs tb = some q → TbE.ap i l cs m e0 s0 q.1 q.2 ∈ e :: tb := fun h => List.mem_cons_of_mem _ (ih h)
    cases e with
    | ap a b c q' e1 s1 z1 z2 =>
      rcases condE (show cond (Nat.beq a i) (cond (Nat.beq b l) (cond (Nat.beq q' m) (cond (Nat.beq e1 e0) (cond (Nat.beq s1 s0) (cond (beqL c cs) (some (z1, z2)) (findA i l m e0 s0 cs tb)) (findA i l m e0 s0 cs tb)) (findA i l m e0 s0 cs tb)) (findA i l m e0 s0 cs tb)) (findA i l m e0 s0 cs tb)) (findA i l m e0 s0 cs tb) = some q from h) with ⟨h1, h⟩ | h
      · rcases condE h with ⟨h2, h⟩ | h
        · rcases condE h with ⟨h3, h⟩ | h
          · rcases condE h with ⟨h5, h⟩ | h
            · rcases condE h with ⟨h6, h⟩ | h
              · rcases condE h with ⟨h4, h⟩ | h
                · injection h with h; subst h
                  rw [Nat.eq_of_beq_eq_true h1, Nat.eq_of_beq_eq_true h2, Nat.eq_of_beq_eq_true h3, Nat.eq_of_beq_eq_true h5, Nat.eq_of_beq_eq_true h6, beqL_eq h4]; exact List.mem_cons_self
                · exact up h
              · exact up h
            · exact up h
          · exact up h
        · exact up h
      · exact up h
    | _ => exact up h
theorem findM_ok {i : Nat} {key : A1} {q : Option A1} : ∀ {tb : List TbE}, findM i key tb = some q → TbE.lk i key q ∈ tb := by
  intro tb
  induction tb with
  | nil => intro h; cases h
  | cons e tb ih =>
    intro h
    have up : findM i key tb = some q → TbE.lk i key q ∈ e :: tb := fun h => List.mem_cons_of_mem _ (ih h)
    cases e with
    | lk a b c =>
      rcases condE (show cond (Nat.beq a i) (cond (beqA b key) (some c) (findM i key tb)) (findM i key tb) = some q from h) with ⟨h1, h⟩ | h
      · rcases condE h with ⟨h2, h⟩ | h
        · injection h with h; subst h
          rw [Nat.eq_of_beq_eq_true h1, beqA_eq h2]; exact List.mem_cons_self
        · exact up h
      · exact up h
    | _ => exact up h
theorem findU_ok {i i' : Nat} {key v : A1} : ∀ {tb : List TbE}, findU i key v tb = some i' → TbE.up i key v i' ∈ tb := by
  intro tb
  induction tb with
  | nil => intro h; cases h
  | cons e tb ih =>
    intro h
    have up : findU i key v tb = some i' → TbE.up i key v i' ∈ e :: tb := fun h => List.mem_cons_of_mem _ (ih h)
    cases e with
    | up a b c z =>
      rcases condE (show cond (Nat.beq a i) (cond (beqA b key) (cond (beqA c v) (some z) (findU i key v tb)) (findU i key v tb)) (findU i key v tb) = some i' from h) with ⟨h1, h⟩ | h
      · rcases condE h with ⟨h2, h⟩ | h
        · rcases condE h with ⟨h3, h⟩ | h
          · injection h with h; subst h
            rw [Nat.eq_of_beq_eq_true h1, beqA_eq h2, beqA_eq h3]; exact List.mem_cons_self
          · exact up h
        · exact up h
      · exact up h
    | _ => exact up h
theorem opAt_ok {m : Nm} {i : Nat} (ho : opAt m h = some i) : get8 m h = some (.op i) := by
  unfold opAt at ho
  split at ho
  · rename_i j hj; injection ho with ho; subst ho; exact hj
  · cases ho
theorem HR.other (hH : HR σ nx h L) (hs : ∀ m y', get8 m h' = some y' → ∃ y, get8 m h = some y ∧ ∀ c ob, OR σ c y ob → OR σ c y' ob) : HR σ nx h' L := by
  refine ⟨hH.fresh, fun p q u v b c d hp hq => ?_, fun m y hm => ?_⟩
  · obtain ⟨u', h1, _⟩ := hs _ _ hp
    obtain ⟨v', h2, _⟩ := hs _ _ hq
    exact hH.inj p q u' v' b c d h1 h2
  · obtain ⟨y', h1, h2⟩ := hs _ _ hm
    obtain ⟨b, c, ob, h3, h4, h5⟩ := hH.own _ _ h1
    exact ⟨b, c, ob, h3, h4, h2 _ _ h5⟩
theorem HR.openO {m : Nm} {i : Nat} (hH : HR σ nx h L) (hm : get8 m h = some (.op i)) : HR σ nx (set8 m (some (σ.tk.ob i)) h) L := hH.other fun q y hq => by
  by_cases e : q = m
  · subst e; rw [get8_same] at hq; injection hq with hq; subst hq
    exact ⟨_, hm, fun c ob ho => ORb.or ho⟩
  · rw [get8_ne e] at hq; exact ⟨y, hq, fun _ _ ho => ho⟩
theorem HR.shut {m : Nm} {i : Nat} {X Y : O} (hH : HR σ nx (set8 m (some Y) (set8 m (some X) h)) L) (hi : σ.tk.ob i = Y) (hY : ∀ c ob, OR σ c Y ob → ORb σ c Y ob) : HR σ nx (set8 m (some (.op i)) h) L := hH.other fun q y hq => by
  by_cases e : q = m
  · subst e; rw [get8_same] at hq; injection hq with hq; subst hq
    exact ⟨Y, get8_same _ _ _, fun c ob ho => by show ORb σ c (σ.tk.ob i) ob; rw [hi]; exact hY c ob ho⟩
  · rw [get8_ne e] at hq; exact ⟨y, by rw [get8_ne e, get8_ne e]; exact hq, fun _ _ ho => ho⟩
theorem does_qlen {κ : Nat} {dsc : TypeDesc} {ts : Array TypeId} (ht : ts[0]? = some t) (hu : P.underlying t = some dsc) (hd : lenK κ dsc = true) (hH : HR σ nx h L) (hE : OpsOk σ n env f #[x]) (hr : q_len (dstP n d) κ (trA n x) ih k env h nx dd = r) (hg : good r) : Dn P w0 B f σ L n k env dd r ⟨d, .call ⟨.builtin .len, #[x], ts⟩, ty, pos, af, g⟩ := by
  unfold q_len at hr
  split at hr
  · rename_i m l hx
    obtain ⟨hk, hr⟩ := cond_ok hr hg
    obtain rfl := Nat.eq_of_beq_eq_true hk
    obtain ⟨b, c, a, h1, h2, h3, hs⟩ := (show okX σ (.os m l) (f x) from hE x (by simp) _ hx)
    refine .val (v := .s (.x (.tk l))) (x := .int .i64 (a : Int)) hH (show _ = σ.tk.val l from h2.symm) hr (fun w hw => ?_)
    cases dsc <;> first | (cases hd; done) | skip
    simp [execOp, resolve, invoke, builtin, Builtin.len_, ht, hs, Sem.run_bind, run_underlying hu, goInt]
  · exact does_len (ih := ih) ht hu hd hH hE hr hg
theorem does_qiad {e sz : Nat} (hu : P.underlying t = some (.slice e)) (hs : szT P e = some sz) (hH : HR σ nx h L) (hE : OpsOk σ n env f #[x, y]) (hr : q_iad (dstP n d) sz (trA n x) (trA n y) ih k env h nx dd = r) (hg : good r) : Dn P w0 B f σ L n k env dd r ⟨d, .indexAddr t x y, ty, pos, af, g⟩ := by
  unfold q_iad at hr
  split at hr
  · rename_i m l j hx hy
    obtain ⟨hk, hr⟩ := cond_ok hr hg
    obtain ⟨a, b, e1, e2, e3⟩ := tbOf_ok hH (findX_ok hk)
    obtain ⟨bb, c, a', h1, h2, h3, h4⟩ := (show okX σ (.os m l) (f x) from hE x (by simp) _ hx)
    rw [e2] at h2; injection h2 with _ h2
    have h2' : b = a' := by exact_mod_cast h2
    subst h2'
    have hy' : f y = .int .i64 (a : Int) := by rw [← e1]; exact (show okX σ (.tk j) (f y) from hE y (by simp) _ hy)
    have hsz := size_of_szT (P := P) hs
    exact .val (v := .s (.x (.pk m j sz 0))) (x := .pointer (some ⟨bb, a * sz + 0, none⟩)) hH ⟨bb, c, a, h1, e1, rfl⟩ hr (fun w _ => by
      simp [execOp, h4, hy', Instr.indexAt, asIntOf, Sem.run_bind, run_underlying hu, hsz, e3, addr_add])
  · exact does_iadS (ih := ih) hu hs hH hE hr hg
theorem does_qfad {fs : Array Field} {i : Nat} {fl : Field} {s : Nat} (hu : P.underlying t = some (.struct fs)) (hf : fs[i]? = some fl) (hs : szT P fl.type = some (s + 1)) (hH : HR σ nx h L) (hE : OpsOk σ n env f #[x]) (hr : q_fad (dstP n d) fl.offset (trA n x) ih k env h nx dd = r) (hg : good r) : Dn P w0 B f σ L n k env dd r ⟨d, .fieldAddr t x i, ty, pos, af, g⟩ := by
  unfold q_fad at hr
  split at hr
  · rename_i m j sz o hx
    obtain ⟨bb, c, a, h1, h2, h4⟩ := (show okX σ (.pk m j sz o) (f x) from hE x (by simp) _ hx)
    have hn : (P.info? fl.type).map (·.size) = some (s + 1) := by
      unfold szT at hs
      split at hs
      · rename_i j e; rw [e]; simpa using hs
      · cases hs
    have hF := FldT.mk' (P := P) hu hf rfl hn (by simp)
    exact .val (v := .s (.x (.pk m j sz (o + fl.offset)))) (x := .pointer (some ⟨bb, a * sz + (o + fl.offset), none⟩)) hH ⟨bb, c, a, h1, h2, rfl⟩ hr (fun w _ => by simp only [execOp, h4]; rw [Sem.run_bind, hF]; simp [addr_add, Nat.add_assoc])
  · exact does_fad (ih := ih) hu hf hs hH hE hr hg
theorem op_cells {m : Nm} {i ty0 r0 n0 : Nat} {ks : List S} (hH : HR σ nx h L) (hm : get8 m h = some (.op i)) (hi : σ.tk.ob i = .c ty0 r0 n0 ks) : ∃ b c vs junk, σ m = some (b, c) ∧ (b, cel ty0 (vs ++ junk)) ∈ L ∧ All2 (okS σ) ks vs ∧ ((r0 ≠ 0 → ks.length = n0 * r0 ∧ vs.length + junk.length = c * r0) ∧ (r0 = 0 → junk = [])) := by
  obtain ⟨b, c, ob, h1, h2, h3⟩ := hH.own _ _ hm
  have h3' : ORb σ c (σ.tk.ob i) ob := h3
  rw [hi] at h3'
  obtain ⟨vs, junk, h4, rfl, h5⟩ := h3'
  exact ⟨b, c, vs, junk, h1, h2, h4, h5⟩
theorem does_qldS (hT : Scalar P t) (hH : HR σ nx h L) (hE : OpsOk σ n env f #[x]) (hr : q_ldS (dstP n d) (trA n x) ih k env h nx dd = r) (hg : good r) : Dn P w0 B f σ L n k env dd r ⟨d, .load t x, ty, pos, af, g⟩ := by
  unfold q_ldS at hr
  split at hr
  · rename_i m j sz o hx
    obtain ⟨i, h1, hr⟩ := onV_ok hr hg
    obtain ⟨cs, h2, hr⟩ := onV_ok hr hg
    split at hr
    rotate_left
    · subst hr; exact good_bad hg
    rename_i s
    obtain ⟨h3, h4⟩ := findL_ok h2
    obtain ⟨a, t0, r0, n0, ks, e1, e2, e3⟩ := tbOf_ok hH h3
    obtain ⟨b, c, vs, junk, g1, g2, g3, _⟩ := op_cells hH (opAt_ok h1) e2
    obtain ⟨bb, c', a', k1, k2, k3⟩ := (show okX σ (.pk m j sz o) (f x) from hE x (by simp) _ hx)
    rw [g1] at k1; injection k1 with k1; injection k1 with k1 k1'; subst k1 k1'
    rw [e1] at k2; injection k2 with _ k2
    have k2' : a = a' := by exact_mod_cast k2
    subst k2'
    obtain ⟨h12, h13⟩ := cut_ok e3
    have h14 : All2 (okS σ) [s] ((vs.drop (a * sz + o)).take 1) := by rw [h12]; exact (g3.drop _).take _
    cases hv : (vs.drop (a * sz + o)).take 1 with
    | nil => rw [hv] at h14; exact h14.elim
    | cons v rest =>
      rw [hv] at h14
      refine .val (v := .s s) hH h14.1 hr (fun w hw => ?_)
      have hc := cells_cut (o := a * sz + o) (m := 1) hw g2 0 v (by rw [hv]; rfl)
      have hl := run_loadS (P := P) hT (show w.cell? ⟨b, a * sz + o, none⟩ = some v by simpa using hc)
      simp [execOp, k3, Instr.loadAt, Instr.sureAddr, Sem.run_bind, hl]
  · exact does_ldS (ih := ih) hT hH hE hr hg
theorem does_qldA {s : Nat} (hT : AggT P t s) (hH : HR σ nx h L) (hE : OpsOk σ n env f #[x]) (hr : q_ldA (dstP n d) s (trA n x) ih k env h nx dd = r) (hg : good r) : Dn P w0 B f σ L n k env dd r ⟨d, .load t x, ty, pos, af, g⟩ := by
  unfold q_ldA at hr
  split at hr
  · rename_i m j sz o hx
    obtain ⟨i, h1, hr⟩ := onV_ok hr hg
    obtain ⟨cs, h2, hr⟩ := onV_ok hr hg
    obtain ⟨h3, h4⟩ := findL_ok h2
    obtain ⟨a, t0, r0, n0, ks, e1, e2, e3⟩ := tbOf_ok hH h3
    obtain ⟨b, c, vs, junk, g1, g2, g3, _⟩ := op_cells hH (opAt_ok h1) e2
    obtain ⟨bb, c', a', k1, k2, k3⟩ := (show okX σ (.pk m j sz o) (f x) from hE x (by simp) _ hx)
    rw [g1] at k1; injection k1 with k1; injection k1 with k1 k1'; subst k1 k1'
    rw [e1] at k2; injection k2 with _ k2
    have k2' : a = a' := by exact_mod_cast k2
    subst k2'
    rw [lenIs_ok h4] at e3
    obtain ⟨h12, h13⟩ := cut_ok e3
    have h14 : All2 (okS σ) cs ((vs.drop (a * sz + o)).take s) := by rw [h12]; exact (g3.drop _).take _
    have h15 : ((vs.drop (a * sz + o)).take s).length = s := by rw [← h14.length]; exact h13
    exact .val (v := .a cs) hH ⟨_, h14, rfl⟩ hr (fun w hw => by
      have hc : CellsAt w b (a * sz + o) ((vs.drop (a * sz + o)).take s) := cells_cut hw g2
      have hl := run_loadA (P := P) hT h15 hc
      simp [execOp, k3, Instr.loadAt, Instr.sureAddr, Sem.run_bind, hl])
  · exact does_ldA (ih := ih) hT hH hE hr hg
theorem orb_c {c ty0 r0 n0 : Nat} {ks : List S} {ob : Obj} (h : OR σ c (.c ty0 r0 n0 ks) ob) : ORb σ c (.c ty0 r0 n0 ks) ob := h
theorem orb_m {c : Nat} {es : List (A1 × A1 × Nat)} {clk : Nat} {ob : Obj} (h : OR σ c (.m es clk) ob) : ORb σ c (.m es clk) ob := h
theorem does_qst {s : Nat} (hs : szT P t = some s) (hH : HR σ nx h L) (hE : OpsOk σ n env f #[x, y]) (hr : q_st (dstP n d) s (trA n x) (trA n y) ih k env h nx dd = r) (hg : good r) : Dn P w0 B f σ L n k env dd r ⟨d, .store t x y, ty, pos, af, g⟩ := by
  unfold q_st at hr
  split at hr
  · rename_i m j sz o hx
    obtain ⟨v, h3, hr⟩ := onV_ok hr hg
    obtain ⟨cs, h5, hr⟩ := onV_ok hr hg
    obtain ⟨h9, hr⟩ := cond_ok hr hg
    obtain ⟨i, h1, hr⟩ := onV_ok hr hg
    obtain ⟨i', h2, hr⟩ := onV_ok hr hg
    obtain ⟨a, t0, r0, n0, ks, ks', e1, e2, e3, e4⟩ := tbOf_ok hH (findS_ok h2)
    obtain ⟨b, c, a', k1, k2, k3⟩ := (show okX σ (.pk m j sz o) (f x) from hE x (by simp) _ hx)
    rw [e1] at k2; injection k2 with _ k2
    have k2' : a = a' := by exact_mod_cast k2
    subst k2'
    obtain ⟨vs, h15, h16⟩ := vcells_ok h5 (hE y (by simp) _ h3)
    have hl := lenIs_ok h9
    have hsz := size_of_szT (P := P) hs
    have hH1 := hH.openO (opAt_ok h1)
    rw [e2] at hH1
    intro w hw
    obtain ⟨w', L', h17, h18, h19⟩ := wr_ok (P := P) hH1 (get8_same _ _ _) k1 e3 h15 hw
    refine ⟨σ, .t [], undef, _, nx, w', L', Sg.le.refl σ, ⟨[], trivial, rfl⟩, h19.shut e4 (fun _ _ => orb_c), hr, .inr ⟨?_, rfl⟩, h18, fun h => Bool.noConfusion (show false = true from h)⟩
    have h20 := h15.length
    simp [execOp, k3, Instr.storeAt, Instr.sureAddr, storeVar, Sem.run_bind, hsz, h16, h17, ← h20, hl]
  · exact does_st (ih := ih) hs hH hE hr hg
theorem does_qnc (hH : HR σ nx h L) (hE : OpsOk σ n env f #[x]) (hr : q_nc (dstP n d) (trA n x) ih k env h nx dd = r) (hg : good r) : Dn P w0 B f σ L n k env dd r ⟨d, .nilCheck x, ty, pos, af, g⟩ := by
  unfold q_nc at hr
  split at hr
  · rename_i m j sz o hx
    obtain ⟨bb, c, a, h1, h2, h4⟩ := (show okX σ (.pk m j sz o) (f x) from hE x (by simp) _ hx)
    exact .val (v := .s (.x (.pk m j sz o))) (x := .pointer (some ⟨bb, a * sz + o, none⟩)) hH ⟨bb, c, a, h1, h2, rfl⟩ hr (fun w _ => by simp [execOp, h4])
  · exact does_nc (ih := ih) hH hE hr hg
theorem newK_at {nx nx' : Nm} {F : Nm → Rs} (hn : nx'.val = nx.val + 1) : newK nx F = F nx' := by
  have hl : nx'.val < 65536 := by
    rw [Nm.val_eq]
    have := nx'.lo.val_lt; have := nx'.hi.val_lt; omega
  rcases suc4_eq nx.lo (fun lo => F ⟨lo, nx.hi⟩) (fun lo => suc4 nx.hi (fun hi => F ⟨lo, hi⟩) (fun _ => .bad 70)) with ⟨k, h1, h2⟩ | ⟨h1, h2⟩
  · have e : nx' = ⟨k, nx.hi⟩ := Nm.val_inj (by rw [hn, Nm.val_eq, Nm.val_eq]; simp only; omega)
    rw [e]; exact h2
  · rcases suc4_eq nx.hi (fun hi => F ⟨zero4, hi⟩) (fun _ => .bad 70) with ⟨k, h3, h4⟩ | ⟨h3, _⟩
    · have e : nx' = ⟨zero4, k⟩ := Nm.val_inj (by rw [hn, Nm.val_eq, Nm.val_eq]; simp only [h3, h1]; show 255 + 256 * nx.hi.val + 1 = 0 + 256 * (nx.hi.val + 1); omega)
      rw [e]; exact h2.trans h4
    · have h9 := Nm.val_eq nx; omega
theorem does_qapp {e e2 sz : Nat} {z : List S} {ts : Array TypeId} (ht : ts = #[t, t']) (hu : P.underlying t = some (.slice e)) (hu2 : P.underlying t' = some (.slice e2)) (hs : szT P e = some sz) (hz : zeroL P e = some z) (hl : z.length = sz) (hb : bytesB P e = true) (hH : HR σ nx h L) (hE : OpsOk σ n env f #[x, y])
    (hr : q_app (dstP n d) e sz (trA n x) (trA n y) ih k env h nx dd = r) (hg : good r) : Dn P w0 B f σ L n k env dd r ⟨d, .call ⟨.builtin .append, #[x, y], ts⟩, ty, pos, af, g⟩ := by
  unfold q_app at hr
  split at hr
  · rename_i nm l hx
    obtain ⟨⟨m, ys⟩, h3, hr⟩ := onV_ok hr hg
    subst ht
    cases hm0 : Nat.beq m 0 with
    | true =>
      have hr : cond (Nat.beq m 0) _ _ = r := hr
      rw [hm0] at hr
      have e0 := Nat.eq_of_beq_eq_true hm0
      subst e0
      obtain ⟨v2, h5, h6⟩ := obind h3
      obtain ⟨vs, h7, h8, h9, h10⟩ := rdS_ok (P := P) (w0 := w0) (B := B) hH h6 (hE y (by simp) _ h5)
      have hok := hE x (by simp) _ hx
      obtain ⟨b, c, a', k1, k2, k3, k4⟩ := (show okX σ (.os nm l) (f x) from hok)
      refine .val (v := .s (.x (.os nm l))) hH hok hr (fun w hw => ?_)
      have hv0 : vs = [] := by
        have := h7.length
        rw [h8, Nat.zero_mul] at this
        exact List.length_eq_zero_iff.1 this.symm
      subst hv0
      have hf := app_fit (P := P) (t := t) (t2 := t') (ty := ty) (len := a') (cap := c) (base := some ⟨b, 0, none⟩) (w := w) hu hs hu2 (h9 w) (h10 w hw) (by omega)
      rw [← k4] at hf
      have hf2 : (Builtin.append_ #[t, t'] ty #[f x, f y]).run P w = .ok (f x) w := by rw [hf]; simp [storeCells, k4]
      simp [execOp, resolve, invoke, builtin, Sem.run_bind, hf2]
    | false =>
    have hr : cond (Nat.beq m 0) _ _ = r := hr
    rw [hm0] at hr
    obtain ⟨i, h1, hr⟩ := onV_ok hr hg
    obtain ⟨⟨i', l'⟩, h2, hr⟩ := onV_ok hr hg
    obtain ⟨nx', hn, hr⟩ := newK_ok hr hg
    obtain ⟨a, ks, e1, e3, e4, e5, e6, e7, e8, e9, e10⟩ := tbOf_ok hH (findA_ok h2)
    obtain ⟨v2, h5, h6⟩ := obind h3
    obtain ⟨vs, h7, h8, h9, h10⟩ := rdS_ok (P := P) (w0 := w0) (B := B) hH h6 (hE y (by simp) _ h5)
    obtain ⟨ti, hi, hbt⟩ := info_of hb
    obtain ⟨zv, h11, h12⟩ := zeroL_ok (σ := σ) hz
    have hzs : zv.cells.size = sz := by have := h11.length; simp at this; omega
    have hA : AppR P w0 B L #[t, t'] ty e sz m (f y) zv vs := ⟨fun base len cap w hw hle => app_fit hu hs hu2 (h9 w) (h10 w hw) hle, fun base len cap xs w hw hx hgt hmax => by
      have := app_grow (ty := ty) (xs := xs.toList) hu hs hu2 hi hbt h12 (h9 w) (fun q => h10 _ (hw.drawn q)) (fun q => by simpa using hx q) hgt hmax
      exact this⟩
    obtain ⟨b, c, a', k1, k2, k3, k4⟩ := (show okX σ (.os nm l) (f x) from hE x (by simp) _ hx)
    rw [e1] at k2; injection k2 with _ k2
    have k2' : a = a' := by exact_mod_cast k2
    subst k2'
    have hH1 := hH.openO (opAt_ok h1)
    rw [e4] at hH1
    intro w hw
    have hrun : appS e sz (.s (.l nm 0 a 0 true)) ys m (set8 nm (some (.c e sz a ks)) h) nx (fun v h nx => .F v h nx) = .F (.s (.l nx 0 (a + m) 0 true)) (set8 nx (some (.c e sz (a + m) (app ks ys))) (set8 nm none (set8 nm (some (.c e sz a ks)) h))) nx' := by
      have b1 : Nat.beq m 0 = false := beq_ne (by omega)
      have b2 : (Nat.beq sz sz && Nat.blt 0 sz) = true := by rw [beq_self, blt_true e7]; rfl
      have b3 : Nat.ble (Nat.add (Nat.add 0 a) m) a = false := by
        cases hb : Nat.ble (Nat.add (Nat.add 0 a) m) a with
        | false => rfl
        | true => have := Nat.le_of_ble_eq_true hb; simp at this; omega
      have b4 : (Nat.beq 0 0 && Nat.beq 0 0 && Nat.beq e e) = true := by rw [beq_self e]; rfl
      have b5 : Nat.ble (Nat.add a m) 1000000 = true := Nat.ble_eq_true_of_le e9
      show cond (Nat.beq m 0) _ (onC (get8 nm (set8 nm (some (.c e sz a ks)) h)) _) = _
      rw [b1, get8_same]
      show cond (Nat.beq sz sz && Nat.blt 0 sz) _ _ = _
      rw [b2]
      show cond (Nat.ble (Nat.add (Nat.add 0 a) m) a) _ _ = _
      rw [b3]
      show cond (Nat.beq 0 0 && Nat.beq 0 0 && Nat.beq e e) _ _ = _
      rw [b4]
      show onV (cond (Nat.beq a a) (some ks) _) _ = _
      rw [beq_self a]
      show cond (Nat.ble (Nat.add a m) 1000000) _ _ = _
      rw [b5]
      exact newK_at hn
    obtain ⟨σ', v', x', h', nx2, w', L', g1, g2, g3, g4, g5, g6⟩ := appS_ok (u0 := f x) hA hzs hH1 (v := .s (.l nm 0 a 0 true)) ⟨b, c, k1, by omega, k4⟩ h7 h8 hrun (fun n => by simp) hw
    injection g4 with q1 q2 q3; subst q1 q2 q3
    obtain ⟨b2, c2, p1, p2, p3⟩ := (show okS σ' (.l nx 0 (a + m) 0 true) x' from g2)
    refine ⟨σ', .s (.x (.os nx l')), x', _, _, w', L', g1, ⟨b2, c2, a + m, p1, by rw [g1.keep.tk]; exact e3, by omega, p3⟩, g3.other (fun q y' hq => ?_), hr, .inl (by simp [execOp, resolve, invoke, builtin, Sem.run_bind, g5]), g6, fun h => Bool.noConfusion (show false = true from h)⟩
    by_cases eq : q = nx
    · subst eq; rw [get8_same] at hq; injection hq with hq; subst hq
      exact ⟨_, get8_same _ _ _, fun c ob ho => by
        show ORb σ' c (σ'.tk.ob i') ob
        rw [g1.keep.tk, e10, ← app_eq]; exact ho⟩
    · rw [get8_ne eq] at hq
      by_cases eq2 : q = nm
      · subst eq2; rw [get8_same] at hq; cases hq
      · rw [get8_ne eq2] at hq
        exact ⟨y', by rw [get8_ne eq, get8_ne eq2, get8_ne eq2]; exact hq, fun _ _ ho => ho⟩
  · exact does_app (ih := ih) ht hu hu2 hs hz hl hb hH hE hr hg
theorem op_map {m : Nm} {i clk : Nat} {es : List (A1 × A1 × Nat)} {b c : Nat} (hH : HR σ nx h L) (hm : get8 m h = some (.op i)) (hi : σ.tk.ob i = .m es clk) (hb : σ m = some (b, c)) : ∃ l, All2 (MR σ) es l ∧ (b, Obj.map l.toArray clk) ∈ L := by
  have hH1 := hH.openO hm
  rw [hi] at hH1
  exact map_of hH1 (get8_same _ _ _) hb
theorem keyZ_ok {κs : List Nat} {v : V} {k : A1} (h : keyZ κs v = some k) : zB κs = true ∧ keyV κs v = some k := by
  unfold keyZ at h
  cases hz : zB κs with
  | true => rw [hz] at h; exact ⟨rfl, h⟩
  | false => rw [hz] at h; cases h
theorem does_qlkp {kt el : TypeId} {κs : List Nat} {z' : A1} {ok : Bool} (hu : P.underlying t = some (.map kt el)) (hz : zeroA P el = some z') (hk : keyK P kt = some κs) (hH : HR σ nx h L) (hE : OpsOk σ n env f #[x, y]) (hr : q_lkp (dstP n d) κs z' ok (trA n x) (trA n y) ih k env h nx dd = r) (hg : good r) : Dn P w0 B f σ L n k env dd r ⟨d, .lookup t x y ok, ty, pos, af, g⟩ := by
  unfold q_lkp at hr
  split at hr
  · rename_i m hx
    split at hr
    · rename_i a ha
      obtain ⟨key, h1, h2⟩ := onV_ok hr hg
      obtain ⟨r1, q1, h10⟩ := onV_ok h2 hg
      obtain ⟨kv, h3, h4⟩ := obind h1
      obtain ⟨hz0, h4⟩ := keyZ_ok h4
      obtain ⟨h5, h6⟩ := keyV_ok h4 (hE y (by simp) _ h3)
      obtain ⟨zv, hz1, hz2⟩ := zeroA_ok hz σ
      obtain ⟨dk, hdk⟩ := underK hk
      obtain ⟨key', es, clk, q0, q2, q3⟩ := tbOf_ok hH (findM_ok q1)
      obtain ⟨h6, h9⟩ := q3 κs hz0 h6
      replace h5 := q0 σ.nm _ h5
      obtain ⟨b, c, h11, hs⟩ := (show okX σ (.m m) (f x) from hE x (by simp) _ hx)
      obtain ⟨l, h12, h13⟩ := op_map hH ha q2 h11
      cases r1 with
      | none =>
        obtain ⟨v, h14, h15⟩ := onV_ok h10 hg
        refine .val (v := v) hH (lkR_ok h14 hz1) h15 (fun w hw => ?_)
        have hb := hw.own _ h13
        simp [execOp, Instr.lookup, hs, Sem.run_bind, run_underlying hu, getObj_ok hb (by simp), check_ok hk h6 h5, findKey_none (P := P) hdk (findK_none hk h5 w h9 h12), hz2]
      | some v1 =>
        obtain ⟨v, h14, h15⟩ := onV_ok h10 hg
        obtain ⟨l1, e, l2, rfl, h16, h17, h18⟩ := findK_some (P := P) hk h5 (w := w0) h9 h12
        refine .val (v := v) hH (lkR_ok h14 h18) h15 (fun w hw => ?_)
        have hb := hw.own _ h13
        simp [execOp, Instr.lookup, hs, Sem.run_bind, run_underlying hu, getObj_ok hb (by simp), check_ok hk h6 h5, findKey_some (P := P) hdk h16 h17]
    · exact does_lkp (ih := ih) hu hz hk hH hE hr hg
  · exact does_lkp (ih := ih) hu hz hk hH hE hr hg
theorem does_qmup {kt el : TypeId} {κs : List Nat} {op : Op} (hop : op = .mapUpdate t x y z ∨ op = .insert t x y z) (hu : P.underlying t = some (.map kt el)) (hk : keyK P kt = some κs) (hH : HR σ nx h L) (hE : OpsOk σ n env f #[x, y, z]) (hr : q_mup (dstP n d) κs (trA n x) (trA n y) (trA n z) ih k env h nx dd = r) (hg : good r) : Dn P w0 B f σ L n k env dd r ⟨d, op, ty, pos, af, g⟩ := by
  unfold q_mup at hr
  split at hr
  · rename_i m hx
    split at hr
    · rename_i a ha
      obtain ⟨key, h1, g2⟩ := onV_ok hr hg
      obtain ⟨kv, h3, h4⟩ := obind h1
      obtain ⟨hz0, h4⟩ := keyZ_ok h4
      obtain ⟨h5, h6⟩ := keyV_ok h4 (hE y (by simp) _ h3)
      obtain ⟨v, g1, g2⟩ := onV_ok g2 hg
      obtain ⟨vv, g3, g4⟩ := obind g1
      have g5 := v1_ok g4 (hE z (by simp) _ g3)
      obtain ⟨a', q1, h10⟩ := onV_ok g2 hg
      obtain ⟨dk, hdk⟩ := underK hk
      have hop' : ∀ w, (execOp f ⟨d, op, ty, pos, af, g⟩).run P w = (execOp f ⟨d, .mapUpdate t x y z, ty, pos, af, g⟩).run P w := fun w => by rcases hop with rfl | rfl <;> rfl
      obtain ⟨key', es, clk, q0, q2, q3⟩ := tbOf_ok hH (findU_ok q1)
      replace h5 := q0 σ.nm _ h5
      obtain ⟨b, c, h11, hs⟩ := (show okX σ (.m m) (f x) from hE x (by simp) _ hx)
      obtain ⟨l, h12, h13⟩ := op_map hH ha q2 h11
      have hH1 := hH.openO ha
      rw [q2] at hH1
      intro w hw
      have hb := hw.own _ h13
      rcases q3 with ⟨v', q4, es', q5, q6⟩ | ⟨q4, q6⟩
      · obtain ⟨l1, e, l2, rfl, h16, h17, h18, h19, h20⟩ := updK_ok (P := P) hk h5 g5 w (q5 κs hz0 h6) h12
        replace h6 := (q4 κs hz0 h6).1
        have hM : OR σ c (.m es' clk) (.map (l1 ++ ({ e with key := f y, val := f z } : MapEntry) :: l2).toArray clk) := ⟨_, h20, rfl⟩
        obtain ⟨w', L', k2, k3, k4⟩ := setO_ok (P := P) hH1 (get8_same _ _ _) h11 (by simp) hM hw
        refine ⟨σ, .t [], undef, _, nx, w', L', Sg.le.refl σ, ⟨[], trivial, rfl⟩, k4.shut q6 (fun _ _ => orb_m), h10, .inr ⟨?_, rfl⟩, k3, fun h => by rcases hop with rfl | rfl <;> exact Bool.noConfusion (show false = true from h)⟩
        rw [hop']
        have e1 : ((((l1 ++ e :: l2).toArray[l1.length]?).map (·.key)).getD (f y)) = f y := by simp [h18]
        have e2 := modify_at e (fun (e : MapEntry) => { e with key := f y, val := f z }) l2 l1
        simp only [execOp, Instr.mapUpdate, hs, Sem.run_bind, run_underlying hu, Result.andThen_ok, getObj_ok hb (by simp), check_ok hk h6 h5, findKey_some (P := P) hdk h16 h17, e1, Instr.keyThatStays, h19, if_true, Sem.run_pure, e2, k2]
      · obtain ⟨h6, h9⟩ := q4 κs hz0 h6
        have hM : OR σ c (.m (es ++ [(key', v, clk)]) (clk + 1)) (.map (l ++ [({ key := f y, val := f z, born := clk } : MapEntry)]).toArray (clk + 1)) := ⟨_, h12.append (m' := [_]) ⟨⟨h5, g5, rfl⟩, trivial⟩, rfl⟩
        obtain ⟨w', L', k1, k2, k3⟩ := setO_ok (P := P) hH1 (get8_same _ _ _) h11 (by simp) hM hw
        refine ⟨σ, .t [], undef, _, nx, w', L', Sg.le.refl σ, ⟨[], trivial, rfl⟩, k3.shut q6 (fun _ _ => orb_m), h10, .inr ⟨?_, rfl⟩, k2, fun h => by rcases hop with rfl | rfl <;> exact Bool.noConfusion (show false = true from h)⟩
        rw [hop']
        have e : l.toArray.push ({ key := f y, val := f z, born := clk } : MapEntry) = (l ++ [({ key := f y, val := f z, born := clk } : MapEntry)]).toArray := by simp
        simp only [execOp, Instr.mapUpdate, hs, Sem.run_bind, run_underlying hu, Result.andThen_ok, getObj_ok hb (by simp), check_ok hk h6 h5, findKey_none (P := P) hdk (findK_none hk h5 w h9 h12), e, k1, Sem.run_pure]
    · exact does_mup (ih := ih) hop hu hk hH hE hr hg
  · exact does_mup (ih := ih) hop hu hk hH hE hr hg
end
end Go.Proofs.YtpcdcemcjbeajaaGreatDoor
set_option linter.unusedVariables false
set_option linter.unusedSimpArgs false
namespace Go.Proofs.YtpcdcemcjbeajaaGreatDoor
open Go.RowKit
section
variable {P : Program} {w0 : World} {B : List Nat} {f : Operand → Value} {σ : Sg} {nx : Nm} {h : Hp} {L : List Ent} {n : Nat} {env : En} {k : Kt} {dd : List D} {r : Rs}
variable {d : Option Nat} {ty : TypeId} {pos : String} {af : Array Edge} {g : Option (Nat × Bool)} {ih : Ih} {x y z : Operand} {t t' : TypeId}
theorem OpsOk.sub {l l' : Array Operand} (h : OpsOk σ n env f l) (hs : ∀ x ∈ l', x ∈ l) : OpsOk σ n env f l' := fun x hx => h x (hs x hx)
theorem failed_ok {m : Nat} {p : Prop} (hr : (failed m).run ih k env h nx dd = r) (hg : good r) : p := by subst hr; exact good_bad (n := m) hg
theorem aggT_under {dsc : TypeDesc} (hu : P.underlying t = some dsc) : aggT P t = some (isAggD dsc) := by unfold aggT; rw [hu]
theorem does_trBin {op : BinOp} (hH : HR σ nx h L) (hE : OpsOk σ n env f #[x, y]) (hr : (trBin P (dstP n d) op t (isC x || isC y) (trA n x) (trA n y)).run ih k env h nx dd = r) (hg : good r) : Dn P w0 B f σ L n k env dd r ⟨d, .binOp op t x y t', ty, pos, af, g⟩ := by
  unfold trBin at hr
  split at hr
  · rename_i kk hu
    split at hr
    · exact does_sh (ih := ih) hH hE hr hg
    · exact does_sh (ih := ih) hH hE hr hg
    · exact does_rem (ih := ih) hH hE hr hg
    · exact does_bin (ih := ih) hH hE hr hg
  · rename_i hu
    split at hr
    · exact does_eqB (ih := ih) (ne := false) hu hH hE hr hg
    · exact does_eqB (ih := ih) (ne := true) hu hH hE hr hg
    · exact failed_ok hr hg
  · rename_i hu
    split at hr
    · exact does_eqT (ih := ih) (ne := false) hH hE hr hg
    · exact does_eqT (ih := ih) (ne := true) hH hE hr hg
    · exact failed_ok hr hg
  · rename_i e hu
    split at hr
    · exact does_eqP (ih := ih) (κ := 0) (ne := false) hu rfl (fun h => by cases h) hH hE hr hg
    · exact does_eqP (ih := ih) (κ := 0) (ne := true) hu rfl (fun h => by cases h) hH hE hr hg
    · exact failed_ok hr hg
  · rename_i hu
    split at hr
    · exact does_eqP (ih := ih) (κ := 1) (ne := false) hu rfl (fun h => by cases h) hH hE hr hg
    · exact does_eqP (ih := ih) (κ := 1) (ne := true) hu rfl (fun h => by cases h) hH hE hr hg
    · exact failed_ok hr hg
  · rename_i hu
    split at hr
    · exact does_eqP (ih := ih) (κ := 2) (ne := false) hu rfl (fun h => by cases h) hH hE hr hg
    · exact does_eqP (ih := ih) (κ := 2) (ne := true) hu rfl (fun h => by cases h) hH hE hr hg
    · exact failed_ok hr hg
  · rename_i hu
    split at hr
    · exact does_eqP (ih := ih) (κ := 3) (ne := false) hu rfl (fun h => by cases h) hH hE hr hg
    · exact does_eqP (ih := ih) (κ := 3) (ne := true) hu rfl (fun h => by cases h) hH hE hr hg
    · exact failed_ok hr hg
  · rename_i hu
    split at hr
    · rename_i hc
      exact does_eqP (ih := ih) (κ := 4) (ne := false) hu rfl (fun _ => hc) hH hE hr hg
    · rename_i hc
      exact does_eqP (ih := ih) (κ := 4) (ne := true) hu rfl (fun _ => hc) hH hE hr hg
    · exact failed_ok hr hg
  · rename_i hu
    split at hr
    · rename_i κs h1 h2
      exact does_eqA (ih := ih) (ne := false) h1 (by omega) (aggT_under hu) h2 hH hE hr hg
    · rename_i κs h1 h2
      exact does_eqA (ih := ih) (ne := true) h1 (by omega) (aggT_under hu) h2 hH hE hr hg
    · exact failed_ok hr hg
  · rename_i hu
    split at hr
    · rename_i κs h1 h2
      exact does_eqA (ih := ih) (ne := false) h1 (by omega) (aggT_under hu) h2 hH hE hr hg
    · rename_i κs h1 h2
      exact does_eqA (ih := ih) (ne := true) h1 (by omega) (aggT_under hu) h2 hH hE hr hg
    · exact failed_ok hr hg
  · exact failed_ok hr hg
theorem condF_ok {b : Bool} {F : Rn} {m : Nat} (hr : (cond b (Fx.mk F) (failed m)).run ih k env h nx dd = r) (hg : good r) : b = true ∧ F ih k env h nx dd = r := by
  cases b with
  | false => exact failed_ok hr hg
  | true => exact ⟨rfl, hr⟩
theorem arr1 {α : Type} {a : Array α} {x : α} (h : a.toList = [x]) : a = #[x] := by apply Array.ext'; simpa using h
theorem arr2 {α : Type} {a : Array α} {x y : α} (h : a.toList = [x, y]) : a = #[x, y] := by apply Array.ext'; simpa using h
theorem does_trCall {cl : Call} (hv : ∀ fv, cl.callee ≠ .value fv) (hH : HR σ nx h L) (hE : OpsOk σ n env f cl.operands) (hr : (trCall P n (dstP n d) cl).run ih k env h nx dd = r) (hg : good r) : Dn P w0 B f σ L n k env dd r ⟨d, .call cl, ty, pos, af, g⟩ := by
  obtain ⟨callee, args, ts⟩ := cl
  unfold trCall at hr
  simp only at hr
  split at hr
  · exact absurd rfl (hv _)
  · rename_i x ha
    obtain rfl := arr1 ha
    have hE' : OpsOk σ n env f #[x] := hE.sub (by simp [Call.operands])
    split at hr
    · rename_i k' e' ht
      obtain ⟨t, h1, h2⟩ := obind ht
      exact does_constLen (ih := ih) h1 h2 hH hr
    · rename_i e' ht
      obtain ⟨t, h1, h2⟩ := obind ht
      exact does_qlen (ih := ih) (κ := 0) h1 h2 rfl hH hE' hr hg
    · rename_i ht
      obtain ⟨t, h1, h2⟩ := obind ht
      exact does_len (ih := ih) (κ := 1) h1 h2 rfl hH hE' hr hg
    · rename_i ht
      obtain ⟨t, h1, h2⟩ := obind ht
      exact does_len (ih := ih) (κ := 2) h1 h2 rfl hH hE' hr hg
    · exact failed_ok hr hg
  · rename_i x ha
    obtain rfl := arr1 ha
    have hE' : OpsOk σ n env f #[x] := hE.sub (by simp [Call.operands])
    split at hr
    · rename_i e' ht
      obtain ⟨t, h1, h2⟩ := obind ht
      exact does_cap (ih := ih) h1 h2 hH hE' hr hg
    · exact failed_ok hr hg
  · rename_i x y ha
    obtain rfl := arr2 ha
    have hE' : OpsOk σ n env f #[x, y] := hE.sub (by simp [Call.operands])
    split at hr
    · rename_i ta tb ht
      obtain rfl := arr2 ht
      split at hr
      · rename_i e1 e2 h1 h2
        split at hr
        · rename_i s z h3 h4
          obtain ⟨h5, h6⟩ := condF_ok hr hg
          rw [Bool.and_eq_true] at h5
          exact does_qapp (ih := ih) rfl h1 h2 h3 h4 (Nat.eq_of_beq_eq_true h5.1) h5.2 hH hE' h6 hg
        · exact failed_ok hr hg
      · rename_i e1 e2 h1 h2
        split at hr
        · rename_i s z h3 h4
          obtain ⟨h5, h6⟩ := condF_ok hr hg
          rw [Bool.and_eq_true] at h5
          exact does_appZ (ih := ih) rfl h1 h2 h3 h4 (Nat.eq_of_beq_eq_true h5.1) h5.2 hH hE' h6 hg
        · exact failed_ok hr hg
      · exact failed_ok hr hg
    · exact failed_ok hr hg
  · rename_i x y ha
    obtain rfl := arr2 ha
    have hE' : OpsOk σ n env f #[x, y] := hE.sub (by simp [Call.operands])
    split at hr
    · rename_i e' ht
      obtain ⟨t, h1, h2⟩ := obind ht
      split at hr
      · rename_i s h3
        exact does_copy (ih := ih) h1 h2 h3 hH hE' hr hg
      · exact failed_ok hr hg
    · exact failed_ok hr hg
  · rename_i x ha
    obtain rfl := arr1 ha
    have hE' : OpsOk σ n env f #[x] := hE.sub (by simp [Call.operands])
    split at hr
    · rename_i e' ht
      obtain ⟨t, h1, h2⟩ := obind ht
      split at hr
      · rename_i s z h3 h4
        exact does_clr (ih := ih) h1 h2 h4 hH hE' hr hg
      · exact failed_ok hr hg
    · exact failed_ok hr hg
  · rename_i x y ha
    obtain rfl := arr2 ha
    have hE' : OpsOk σ n env f #[x, y] := hE.sub (by simp [Call.operands])
    split at hr
    · rename_i ht
      obtain ⟨t, h1, h2⟩ := obind ht
      split at hr
      · rename_i s h3
        exact does_del (ih := ih) h1 h2 h3 hH hE' hr hg
      · exact failed_ok hr hg
    · exact failed_ok hr hg
  · rename_i x y ha
    obtain rfl := arr2 ha
    have hE' : OpsOk σ n env f #[x, y] := hE.sub (by simp [Call.operands])
    exact does_mm (ih := ih) (mx := false) rfl hH hE' hr hg
  · rename_i x y ha
    obtain rfl := arr2 ha
    have hE' : OpsOk σ n env f #[x, y] := hE.sub (by simp [Call.operands])
    exact does_mm (ih := ih) (mx := true) rfl hH hE' hr hg
  · exact failed_ok hr hg
end
theorem mxB_ok {hi mx : Option Operand} (h : mxB hi mx = true) : mx = none ∨ hi ≠ none := by
  cases hi <;> cases mx <;> first | exact .inl rfl | (cases h; done) | exact .inr (by simp)
theorem opDoes {P : Program} {w0 : World} {B : List Nat} {f : Operand → Value} {σ : Sg} {nx : Nm} {h : Hp} {L : List Ent} {n : Nat} {env : En} {k : Kt} {dd : List D} {r : Rs} {ih : Ih} {q : Bool} {d : Option Nat} {op : Op} {ty : TypeId} {pos : String} {af : Array Edge} {g : Option (Nat × Bool)}
    (hne : (∀ fv as ts, op ≠ .call ⟨.value fv, as, ts⟩) ∧ ∀ cl, op ≠ .defer cl) (hH : HR σ nx h L) (hE : OpsOk σ n env f op.operands) (hr : (trOp P n q (dstP n d) op).run ih k env h nx dd = r) (hg : good r) : Dn P w0 B f σ L n k env dd r ⟨d, op, ty, pos, af, g⟩ := by
  cases op with
  | move x => exact (does_mv (ih := ih) hH hE hr hg)
  | assign x => exact (does_as (ih := ih) hH hE hr hg)
  | pick x y z => exact (does_pick (ih := ih) hH hE hr hg)
  | alloc t =>
    simp only [trOp] at hr
    split at hr
    · rename_i z hz; exact (does_new (ih := ih) hz hH hr hg)
    · exact failed_ok hr hg
  | box t x => exact (does_box (ih := ih) hH hE hr hg)
  | build t ps =>
    simp only [trOp] at hr
    split at hr
    · rename_i fs z hu hz
      split at hr
      · rename_i l h1 h2
        exact (does_bldS (ih := ih) hu hz (fun fl hf => by have := List.all_eq_true.1 h2 fl hf; exact Option.isSome_iff_exists.1 this) h1 hH hE hr hg)
      · exact failed_ok hr hg
    · rename_i q' e z hu hz
      split at hr
      · rename_i s hs; exact (does_bldA (ih := ih) hu hz hs hH hE hr hg)
      · exact failed_ok hr hg
    · exact failed_ok hr hg
  | buildSlice t k' ps =>
    simp only [trOp] at hr
    split at hr
    · rename_i e hu
      split at hr
      · rename_i s z hs hz
        obtain ⟨h1, h2⟩ := condF_ok hr hg
        rw [Bool.and_eq_true] at h1
        exact (does_bsl (ih := ih) hu hz hs (Nat.eq_of_beq_eq_true h1.2) (Nat.le_of_ble_eq_true h1.1) hH hE h2 hg)
      · exact failed_ok hr hg
    · exact failed_ok hr hg
  | insert t x y z =>
    simp only [trOp] at hr
    split at hr
    · rename_i kt el hu
      split at hr
      · rename_i κs hk'; exact (does_qmup (ih := ih) (.inr rfl) hu hk' hH hE hr hg)
      · exact failed_ok hr hg
    · exact failed_ok hr hg
  | mapUpdate t x y z =>
    simp only [trOp] at hr
    split at hr
    · rename_i kt el hu
      split at hr
      · rename_i κs hk'; exact (does_qmup (ih := ih) (.inl rfl) hu hk' hH hE hr hg)
      · exact failed_ok hr hg
    · exact failed_ok hr hg
  | load t x =>
    simp only [trOp] at hr
    split at hr
    · rename_i s h1 h2; exact (does_qldA (ih := ih) (aggT_of h1 h2) hH hE hr hg)
    · rename_i h1 h2; exact (does_qldS (ih := ih) (scalar_of h1 h2) hH hE hr hg)
    · exact failed_ok hr hg
  | store t x y =>
    simp only [trOp] at hr
    split at hr
    · rename_i s h1; exact (does_qst (ih := ih) h1 hH hE hr hg)
    · exact failed_ok hr hg
  | nilCheck x => exact (does_qnc (ih := ih) hH hE hr hg)
  | binOp op t x y t' => exact (does_trBin (ih := ih) hH hE hr hg)
  | unOp op t x =>
    cases op with
    | not => exact (does_not (ih := ih) hH hE hr hg)
    | neg => exact (does_neg (ih := ih) hH hE hr hg)
    | _ => exact failed_ok hr hg
  | convert s t x =>
    simp only [trOp] at hr
    split at hr
    · rename_i h1 h2; exact (does_conv (ih := ih) h1 h2 hH hE hr hg)
    · rename_i h1 h2
      split at hr
      · rename_i h3; exact (does_cvBS (ih := ih) h1 h2 h3 hH hE hr hg)
      · exact failed_ok hr hg
    · exact failed_ok hr hg
  | sliceToArrayPointer t x =>
    simp only [trOp] at hr
    split at hr
    · rename_i h1; exact (does_tap (ih := ih) h1 hH hE hr hg)
    · exact failed_ok hr hg
  | makeInterface t x =>
    simp only [trOp] at hr
    split at hr
    · rename_i h1; exact (does_mif (ih := ih) h1 hH hE hr hg)
    · exact failed_ok hr hg
  | makeFunc fn first cs =>
    simp only [trOp] at hr
    split at hr
    · rename_i g' h1
      obtain rfl : first = #[] := by apply Array.ext'; simpa using h1
      exact (does_mkf (ih := ih) hH (hE.sub (by simp [Op.operands])) hr hg)
    · exact failed_ok hr hg
  | makeMap t rr =>
    cases rr with
    | none => exact (does_mkm (ih := ih) hH hr hg)
    | some x => exact failed_ok hr hg
  | makeSlice t x y =>
    simp only [trOp] at hr
    split at hr
    · rename_i e hu
      split at hr
      · rename_i s z hs hz
        obtain ⟨h1, h2⟩ := condF_ok hr hg
        rw [Bool.and_eq_true] at h1
        obtain ⟨ti, hi, hb⟩ := info_of h1.2
        exact (does_mks (ih := ih) (bytes := 0) hu hz hs (Nat.eq_of_beq_eq_true h1.1) hi hb hH hE h2 hg)
      · exact failed_ok hr hg
    · exact failed_ok hr hg
  | slice t x lo hi mx =>
    simp only [trOp] at hr
    cases hm : mxB hi mx with
    | false => rw [hm] at hr; exact failed_ok hr hg
    | true =>
      rw [hm] at hr
      simp only [cond_true] at hr
      split at hr
      · rename_i e hu
        split at hr
        · rename_i s hs; exact (does_slS (ih := ih) hu hs (mxB_ok hm) hH hE hr hg)
        · exact failed_ok hr hg
      · rename_i k' e hu
        split at hr
        · rename_i s hs; exact (does_slA (ih := ih) hu hs (mxB_ok hm) hH hE hr hg)
        · exact failed_ok hr hg
      · exact failed_ok hr hg
  | fieldAddr t x i =>
    simp only [trOp] at hr
    split at hr
    · rename_i fs hu
      split at hr
      · rename_i fl hf
        split at hr
        · rename_i s hs; exact (does_qfad (ih := ih) hu hf hs hH hE hr hg)
        · exact failed_ok hr hg
      · exact failed_ok hr hg
    · exact failed_ok hr hg
  | field t x i =>
    simp only [trOp] at hr
    split at hr
    · rename_i fs hu
      split at hr
      · rename_i fl hf
        split at hr
        · rename_i s h1 h2; exact (does_fldA (ih := ih) hu hf h1 h2 hH hE hr hg)
        · rename_i h1 h2; exact (does_fldS (ih := ih) hu hf h1 h2 hH hE hr hg)
        · exact failed_ok hr hg
      · exact failed_ok hr hg
    · exact failed_ok hr hg
  | indexAddr t x y =>
    simp only [trOp] at hr
    split at hr
    · rename_i e hu
      split at hr
      · rename_i s hs; exact (does_qiad (ih := ih) hu hs hH hE hr hg)
      · exact failed_ok hr hg
    · rename_i k' e hu
      split at hr
      · rename_i s hs; exact (does_iadA (ih := ih) hu hs hH hE hr hg)
      · exact failed_ok hr hg
    · exact failed_ok hr hg
  | index t x y =>
    simp only [trOp] at hr
    split at hr
    · rename_i hu; exact (does_ixS (ih := ih) hu hH hE hr hg)
    · rename_i k' e hu
      split at hr
      · rename_i s ag hs ha
        obtain ⟨h1, h2⟩ := condF_ok hr hg
        exact (does_ixA (ih := ih) hu hs ha (fun e => by subst e; exact Nat.eq_of_beq_eq_true (by simpa using h1)) hH hE h2 hg)
      · exact failed_ok hr hg
    · exact failed_ok hr hg
  | lookup t x i ok =>
    simp only [trOp] at hr
    split at hr
    · rename_i kt el hu
      split at hr
      · rename_i z κs hz hk'; exact (does_qlkp (ih := ih) hu hz hk' hH hE hr hg)
      · exact failed_ok hr hg
    · exact failed_ok hr hg
  | range t x =>
    simp only [trOp] at hr
    split at hr
    · rename_i hu; exact (does_rng (ih := ih) hu hH hE hr hg)
    · exact failed_ok hr hg
  | next x isS =>
    cases isS with
    | false => exact (does_nxt (ih := ih) hH hE hr hg)
    | true => exact failed_ok hr hg
  | entry x => exact (does_ent (ih := ih) hH hE hr hg)
  | typeAssert x t1 t ok =>
    simp only [trOp] at hr
    split at hr
    · rename_i hu; exact (does_tas (ih := ih) hu hH hE hr hg)
    · exact failed_ok hr hg
  | extract x i => exact (does_ext (ih := ih) hH hE hr hg)
  | call cl =>
    obtain ⟨callee, args, ts⟩ := cl
    cases callee with
    | value fv => exact absurd rfl (hne.1 _ _ _)
    | _ => exact does_trCall (by simp) hH hE hr hg
  | defer cl => exact absurd rfl (hne.2 _)
  | _ => exact failed_ok hr hg
theorem opSnd {P : Program} {ih : Ih} (hS : Snd P ih) : OpSnd P ih := by
  intro c q ol rest o K Qp ρ ds L σ nx h env k dd r hP hq hrd hw hH hds hE hr hg hk
  subst hP
  obtain ⟨d, op, ty, pos, af, g⟩ := o
  have go : notDefer op = true → Dn c.P c.w0 c.S (evE c.n ρ) σ L c.n k env dd r ⟨d, op, ty, pos, af, g⟩ → RL c ol (⟨d, op, ty, pos, af, g⟩ :: rest) K Qp ρ ds L := fun h1 h2 => rl_of_does hq hw h1 h2 hds hk
  simp only at hE hr
  cases op with
  | call cl =>
    obtain ⟨callee, args, ts⟩ := cl
    cases callee with
    | value fv => exact rl_call rfl hq hS hw hH hds hE hr hg hk
    | _ => exact go rfl (does_trCall (ih := ih) (by simp) hH hE hr hg)
  | defer cl =>
    obtain ⟨callee, args, ts⟩ := cl
    simp only [trOp] at hr
    split at hr
    · rename_i fv h1
      obtain rfl : args = #[] := by apply Array.ext'; simpa using h1
      cases q with
      | true => exact failed_ok hr hg
      | false => exact rl_dfr (ih := ih) hq hrd hw hH hds (hE.sub (by simp [Op.operands, Call.operands])) hr hg hk
    · exact failed_ok hr hg
  | _ => exact go rfl (opDoes ⟨by simp, by simp⟩ hH hE hr hg)
end Go.Proofs.YtpcdcemcjbeajaaGreatDoor
