/- SYM: a region that draws its order, whatever order is picked: of each operation one says what it leaves ('Fact'), given what those leave that it waits for. -/
import Derived.Test.YtgmlbaffghogaaaGreatDoorSymMore
import Derived.OrdersIn
set_option linter.unusedVariables false
set_option linter.unusedSimpArgs false
namespace Go.Proofs.YtgmlbaffghogaaaGreatDoor
open Go.RowKit
/-- What an operation leaves in its slot: nothing that is told; this value; a value of which something is told that stays true whatever is made besides. -/
inductive Fact where
  | any
  | val (v : Value)
  | prd (p : Value → List Ent → Prop) (h : ∀ v L L', (∀ q ∈ L, q ∈ L') → p v L → p v L')
def Fact.holds : Fact → Value → List Ent → Prop
  | .any, _, _ => True
  | .val u, v, _ => v = u
  | .prd p _, v, L => p v L
theorem Fact.mono {f : Fact} {v : Value} {L L' : List Ent} (hs : ∀ q ∈ L, q ∈ L') (h : f.holds v L) : f.holds v L' := by
  cases f with
  | any => trivial
  | val u => exact h
  | prd p hp => exact hp v L L' hs h
def factAt (fs : List Fact) (j : Nat) : Fact := fs.getD j .any
def AllAt (p : Nat → Oper → Prop) : Nat → List Oper → Prop
  | _, [] => True
  | k, o :: l => p k o ∧ AllAt p (k + 1) l
theorem AllAt.get {p : Nat → Oper → Prop} : ∀ {l : List Oper} {k : Nat}, AllAt p k l → ∀ i o, l[i]? = some o → p (k + i) o
  | [], _, _, i, o, h => by simp at h
  | x :: l, k, ha, 0, o, h => by simp at h; subst h; exact ha.1
  | x :: l, k, ha, i + 1, o, h => by
    have := ha.2.get i o (by simpa using h)
    rwa [show k + (i + 1) = k + 1 + i by omega]
/-- No two operations write the same slot; each waits for earlier ones alone. -/
def dstsB : List Oper → List Nat → Bool
  | [], _ => true
  | o :: l, seen => (match o.dst with | some d => !(seen.contains d) | none => true) && dstsB l (match o.dst with | some d => d :: seen | none => seen)
def backB : List Oper → Nat → Bool
  | [], _ => true
  | o :: l, k => o.after.toList.all (fun e => Nat.blt e.on k) && backB l (k + 1)
theorem dstsB_seen : ∀ {l : List Oper} {seen : List Nat}, dstsB l seen = true → ∀ (i : Nat) (o : Oper) d, l[i]? = some o → o.dst = some d → d ∉ seen
  | [], _, _, i, o, d, h, _ => by simp at h
  | x :: l, seen, hb, i, o, d, h, hd => by
    simp only [dstsB, Bool.and_eq_true] at hb
    cases i with
    | zero =>
      simp at h; subst h
      rw [hd] at hb; simpa using hb.1
    | succ i =>
      have := dstsB_seen hb.2 i o d (by simpa using h) hd
      intro hm
      apply this
      cases x.dst with
      | none => exact hm
      | some e => exact List.mem_cons_of_mem _ hm
theorem dstsB_inj : ∀ {l : List Oper} {seen : List Nat}, dstsB l seen = true → ∀ (i j : Nat) (o o' : Oper) d, l[i]? = some o → l[j]? = some o' → o.dst = some d → o'.dst = some d → i = j
  | [], _, _, i, j, o, o', d, h, _, _, _ => by simp at h
  | x :: l, seen, hb, i, j, o, o', d, hi, hj, hd, hd' => by
    simp only [dstsB, Bool.and_eq_true] at hb
    cases i with
    | zero =>
      cases j with
      | zero => rfl
      | succ j =>
        simp at hi; subst hi
        have := dstsB_seen hb.2 j o' d (by simpa using hj) hd'
        rw [hd] at this; simp at this
    | succ i =>
      cases j with
      | zero =>
        simp at hj; subst hj
        have := dstsB_seen hb.2 i o d (by simpa using hi) hd
        rw [hd'] at this; simp at this
      | succ j => exact congrArg (· + 1) (dstsB_inj hb.2 i j o o' d (by simpa using hi) (by simpa using hj) hd hd')
theorem backB_get : ∀ {l : List Oper} {k : Nat}, backB l k = true → ∀ (i : Nat) (o : Oper), l[i]? = some o → ∀ e ∈ o.after, e.on < k + i
  | [], _, _, i, o, h, _, _ => by simp at h
  | x :: l, k, hb, i, o, h, e, he => by
    simp only [backB, Bool.and_eq_true] at hb
    cases i with
    | zero =>
      simp at h; subst h
      have := List.all_eq_true.1 hb.1 e (by simpa using he)
      rw [Nat.blt_eq] at this; omega
    | succ i =>
      have := backB_get hb.2 i o (by simpa using h) e he
      omega
theorem wpIn_swap {F : Fence} {n : Nat} {P : Program} {o : Oper} {a : Act} {w : World} {K K' : Act → World → Prop} {Q Q' : Exit → Act → World → Prop} (hK : ∀ a w, K a w → K' a w) (hQ : ∀ c a w, ¬ Q (.panic c) a w) (hL : ¬ LetsOut Q) (hh : o.wpIn F n P a w K Q) : o.wpIn F n P a w K' Q' := by
  unfold Oper.wpIn at *
  refine ⟨hh.1, ?_⟩
  have hh := hh.2
  generalize (o.semAt F.round a.eval).run P w = r at *
  cases r with
  | ok x w' =>
    cases x <;> simp only [Oper.uponIn] at hh ⊢ <;>
      first
        | exact hK _ _ hh
        | exact ⟨hh.1, CallsIn.mono hh.2 (fun e w'' he => by cases e <;> first | exact hK _ _ he | exact absurd he (hQ _ _ _) | exact absurd he hL)⟩
        | exact ⟨hh.1, RowsIn.mono hh.2 (fun _ _ he => hK _ _ he)⟩
        | exact ⟨hh.1, RoundIn.mono hh.2 (fun e w'' he => by cases e <;> first | exact hK _ _ he | exact absurd he (hQ _ _ _) | exact absurd he hL)⟩
  | halt x w' => cases x <;> simp only [Oper.uponIn] at hh ⊢ <;> first | exact absurd hh (hQ _ _ _) | exact hh
/-- What is known of the frame while the region goes on. -/
structure Mid (l : List Oper) (fs : List Fact) (ρ0 : Env) (L0 : List Ent) (listed : Array Bool) (ρ : Env) (L : List Ent) : Prop where
  size : listed.size = l.length
  fix : ∀ t, (∀ o ∈ l, o.dst ≠ some t) → ρ t = ρ0 t
  old : ∀ (j : Nat) (o : Oper) d, l[j]? = some o → o.dst = some d → listed.getD j true = false → ρ d = ρ0 d
  told : ∀ (j : Nat) (o : Oper) d, l[j]? = some o → o.dst = some d → listed.getD j false = true → (factAt fs j).holds (ρ d) L
  down : ∀ (j : Nat) (o : Oper), l[j]? = some o → listed.getD j false = true → ∀ e ∈ o.after, Region.binds .any e = true → listed.getD e.on false = true
  kept : ∀ p ∈ L0, p ∈ L
/-- What is asked of operation i. -/
def StepOk (c : Cx) (l : List Oper) (fs : List Fact) (ρ0 : Env) (ds : Ds) (L0 : List Ent) (i : Nat) (o : Oper) : Prop :=
  ∀ ρ L, (∀ e ∈ o.after, Region.binds .any e = true → ∀ (o' : Oper) d, l[e.on]? = some o' → o'.dst = some d → (factAt fs e.on).holds (ρ d) L) → (∀ t, (∀ o ∈ l, o.dst ≠ some t) → ρ t = ρ0 t) →
    (∀ (j : Nat) (o' : Oper) d, l[j]? = some o' → o'.dst = some d → (∃ e ∈ o'.after, Region.binds .any e = true ∧ e.on = i) → ρ d = ρ0 d) → (∀ p ∈ L0, p ∈ L) →
    RL c l [o] (fun ρ2 ds2 L2 => ds2 = ds ∧ (∃ v, ρ2 = updO ρ o.dst v ∧ (factAt fs i).holds v L2) ∧ ∀ p ∈ L, p ∈ L2) (fun _ _ _ _ => False) ρ ds L
theorem St.subset {w0 w : World} {S : List Nat} {L L' : List Ent} (h : St w0 S w L) (hs : ∀ p ∈ L', p ∈ L) (hn : (keys L').Nodup) : St w0 S w L' :=
  ⟨h.os, h.tape, h.output, h.size, h.keep, fun p hp => h.own p (hs p hp), fun p hp => h.free p (hs p hp), hn⟩
theorem count_set {A : Array Bool} {i : Nat} (h : A.getD i true = false) : (A.setIfInBounds i true).toList.count false + 1 = A.toList.count false := by
  obtain ⟨l⟩ := A
  simp only [Array.getD_eq_getD_getElem?, List.getElem?_toArray, List.setIfInBounds_toArray] at h ⊢
  induction l generalizing i with
  | nil => simp at h
  | cons b l ih =>
    cases i with
    | zero => simp at h; subst h; simp
    | succ i =>
      have := ih (i := i) (by simpa using h)
      simp only [List.set_cons_succ, List.count_cons]
      omega
theorem getD_set_eq {A : Array Bool} {i j : Nat} {b : Bool} (hi : i < A.size) : (A.setIfInBounds i true).getD j b = if i = j then true else A.getD j b := by
  simp only [Array.getD_eq_getD_getElem?, Array.getElem?_setIfInBounds]
  by_cases h : i = j
  · subst h; simp [hi]
  · simp [h]
theorem not_listed {A : Array Bool} {j : Nat} (h : A.getD j true = false) : A.getD j false = false := by
  simp only [Array.getD_eq_getD_getElem?] at h ⊢
  cases hj : A[j]? with
  | none => simp [hj] at h
  | some b => simpa [hj] using h
theorem listed_of {A : Array Bool} {j : Nat} (hj : j < A.size) (h : ¬ A.getD j true = false) : A.getD j false = true := by
  simp only [Array.getD_eq_getD_getElem?, Array.getElem?_eq_getElem hj] at h ⊢
  simpa using h
section
variable {c : Cx} {l : List Oper} {fs : List Fact} {ρ0 : Env} {ds : Ds} {L0 : List Ent} {K : Ko}
theorem any_all (hq : c.q = false) (hd : dstsB l [] = true) (hb : backB l 0 = true) (hstep : AllAt (StepOk c l fs ρ0 ds L0) 0 l)
    (hend : ∀ ρ L, (∀ (j : Nat) (o : Oper) d, l[j]? = some o → o.dst = some d → (factAt fs j).holds (ρ d) L) → (∀ t, (∀ o ∈ l, o.dst ≠ some t) → ρ t = ρ0 t) → (∀ p ∈ L0, p ∈ L) → (keys L).Nodup → ∃ L', (∀ p ∈ L', p ∈ L) ∧ (keys L').Nodup ∧ K ρ ds L') :
    ∀ (fuel : Nat) (listed : Array Bool) (ρ : Env) (L : List Ent) (w : World), listed.toList.count false = fuel → Mid l fs ρ0 L0 listed ρ L → St c.w0 c.S w L →
      wpAnyIn (FR c.rd) 0 c.P .any l.toArray (lift c (nrm K (fun _ _ _ _ => False))) fuel listed (act c.n ρ ds) w := by
  have fin : ∀ (listed : Array Bool) (ρ : Env) (L : List Ent) (w : World), Region.ready .any l.toArray listed = [] → Mid l fs ρ0 L0 listed ρ L → St c.w0 c.S w L → lift c (nrm K (fun _ _ _ _ => False)) .normal (act c.n ρ ds) w := by
    intro listed ρ L w hr hm hst
    have hall : ∀ j, j < l.length → listed.getD j false = true := by
      intro j
      induction j using Nat.strongRecOn with
      | _ j ih =>
        intro hj
        by_cases hu : listed.getD j true = false
        · exfalso
          have : j ∈ Region.ready .any l.toArray listed := mem_ready.2 ⟨hu, l[j], by simp [hj], fun e he hbd => ih e.on (by have := backB_get hb j _ (List.getElem?_eq_getElem hj) e he; omega) (by have := backB_get hb j _ (List.getElem?_eq_getElem hj) e he; omega)⟩
          rw [hr] at this; cases this
        · exact listed_of (by rw [hm.size]; exact hj) hu
    obtain ⟨L', h1, h2, h3⟩ := hend ρ L (fun j o d ho hdd => hm.told j o d ho hdd (hall j (List.getElem?_eq_some_iff.1 ho).1)) hm.fix hm.kept hst.nodup
    exact ⟨ρ, ds, L', rfl, hst.subset h1 h2, h3⟩
  intro fuel
  induction fuel with
  | zero =>
    intro listed ρ L w hc hm hst
    have hr : Region.ready .any l.toArray listed = [] := by
      apply List.eq_nil_iff_forall_not_mem.2
      intro i hi
      have := count_set (mem_ready.1 hi).1
      omega
    exact ⟨hr, fin listed ρ L w hr hm hst⟩
  | succ fuel ih =>
    intro listed ρ L w hc hm hst
    refine ⟨fun hr => fin listed ρ L w hr hm hst, fun i hi => ?_⟩
    obtain ⟨hu, o, ho, hdeps⟩ := mem_ready.1 hi
    have ho' : l[i]? = some o := by simpa using ho
    have hil : i < listed.size := by rw [hm.size]; exact (List.getElem?_eq_some_iff.1 ho').1
    have hstep' := hstep.get i o ho'
    rw [Nat.zero_add] at hstep'
    have h1 := hstep' ρ L (fun e he hbd o' d ho2 hd2 => hm.told e.on o' d ho2 hd2 (hdeps e he hbd)) hm.fix
      (fun j o' d hj hdj ⟨e, he, hbd, hei⟩ => hm.old j o' d hj hdj (by
        cases hlj : listed.getD j true with
        | false => rfl
        | true =>
          exfalso
          have hjl : j < listed.size := by rw [hm.size]; exact (List.getElem?_eq_some_iff.1 hj).1
          have h2 := hm.down j o' hj (listed_of hjl (by rw [hlj]; simp)) e he hbd
          rw [hei] at h2
          rw [not_listed hu] at h2; cases h2)) hm.kept
    rw [RL_f hq] at h1
    have h2 := h1 w hst
    unfold wpOpIn
    simp only [List.getElem?_toArray, ho']
    simp only [wpListIn] at h2
    have next : ∀ a' w', lift c (nrm (fun ρ2 ds2 L2 => ds2 = ds ∧ (∃ v, ρ2 = updO ρ o.dst v ∧ (factAt fs i).holds v L2) ∧ ∀ p ∈ L, p ∈ L2) (fun _ _ _ _ => False)) .normal a' w' →
        wpAnyIn (FR c.rd) 0 c.P .any l.toArray (lift c (nrm K (fun _ _ _ _ => False))) fuel (listed.setIfInBounds i true) a' w' := by
      rintro a' w' ⟨ρ2, ds2, L2, rfl, hst2, rfl, ⟨v, rfl, hF⟩, hsub⟩
      refine ih _ _ L2 w' (by have := count_set hu; omega) ?_ hst2
      have hne : ∀ j o' d, l[j]? = some o' → o'.dst = some d → j ≠ i → updO ρ o.dst v d = ρ d := by
        intro j o' d hj hdj hji
        cases hod : o.dst with
        | none => rfl
        | some e =>
          have : d ≠ e := fun hde => hji (dstsB_inj hd j i o' o d hj ho' hdj (by rw [hod, hde]))
          exact upd_ne _ _ this
      refine ⟨by simpa using hm.size, fun t ht => ?_, fun j o' d hj hdj hlj => ?_, fun j o' d hj hdj hlj => ?_, fun j o' hj hlj e he hbd => ?_, fun p hp => hsub p (hm.kept p hp)⟩
      · cases hod : o.dst with
        | none => exact hm.fix t ht
        | some e =>
          have : t ≠ e := fun hte => ht o (List.mem_of_getElem? ho') (by rw [hod, hte])
          simp only [updO]; rw [upd_ne _ _ this]; exact hm.fix t ht
      · rw [getD_set_eq hil] at hlj
        by_cases hij : i = j
        · rw [if_pos hij] at hlj; cases hlj
        · rw [if_neg hij] at hlj
          rw [hne j o' d hj hdj (Ne.symm hij)]; exact hm.old j o' d hj hdj hlj
      · rw [getD_set_eq hil] at hlj
        by_cases hij : i = j
        · subst hij
          rw [ho'] at hj; obtain rfl := Option.some.inj hj
          rw [hdj]; simp only [updO]; rw [upd_same]; exact hF
        · rw [if_neg hij] at hlj
          rw [hne j o' d hj hdj (Ne.symm hij)]; exact Fact.mono hsub (hm.told j o' d hj hdj hlj)
      · rw [getD_set_eq hil] at hlj ⊢
        by_cases hei : i = e.on
        · rw [if_pos hei]
        · rw [if_neg hei]
          by_cases hij : i = j
          · subst hij
            rw [ho'] at hj; obtain rfl := Option.some.inj hj
            exact hdeps e he hbd
          · rw [if_neg hij] at hlj; exact hm.down j o' hj hlj e he hbd
    split
    · rename_i hw
      rw [if_pos hw] at h2
      exact wpIn_swap next (fun cc a w => by rintro ⟨_, _, _, _, _, h⟩; exact h) (by rintro ⟨a, w, _, _, _, _, _, h⟩; exact h) h2
    · rename_i hw
      rw [if_neg hw] at h2
      exact ⟨h2.1, next _ _ h2.2⟩
/-- **A region that draws its order**, in a round or outside of all. -/
theorem X.any {k : List KI} {Q : Po} {id : Nat} (fs : List Fact) (hq : c.q = false) (hm : c.P.follows .mixedOrders = true) (hd : dstsB l [] = true) (hb : backB l 0 = true) (hstep : AllAt (StepOk c l fs ρ0 ds L0) 0 l)
    (hend : ∀ ρ L, (∀ (j : Nat) (o : Oper) d, l[j]? = some o → o.dst = some d → (factAt fs j).holds (ρ d) L) → (∀ t, (∀ o ∈ l, o.dst ≠ some t) → ρ t = ρ0 t) → (∀ p ∈ L0, p ∈ L) → X c k Q ρ ds L) : X c (.code (.region id l.toArray true) :: k) Q ρ0 ds L0 := by
  intro w hw
  refine wpIn_mono (wpIn_region_any hm (Q := lift c (nrm (X c k Q) (fun _ _ _ _ => False))) ?_) ?_
  · have := any_all (K := X c k Q) hq hd hb hstep (fun ρ L h1 h2 h3 h4 => ⟨L, fun _ h => h, h4, hend ρ L h1 h2 h3⟩) l.length (Array.replicate l.length false) ρ0 L0 { w with drawn := w.drawn + 1 } (by simp) ⟨by simp, fun _ _ => rfl, fun _ _ _ _ _ _ => rfl, fun j o d hj _ hl => by
      have := (List.getElem?_eq_some_iff.1 hj).1
      simp [Array.getD_eq_getD_getElem?, this] at hl, fun j o hj hl => by
      have := (List.getElem?_eq_some_iff.1 hj).1
      simp [Array.getD_eq_getD_getElem?, this] at hl, fun _ h => h⟩ (hw.drawn _)
    simpa using this
  · rintro e a w' ⟨ρ', ds', L', rfl, hst, h⟩
    cases e with
    | normal => exact ⟨ρ', ds', L', rfl, hst, h⟩
    | _ => exact h.elim
/-- The same where nothing is made: what was known of the blocks is known as it was. -/
theorem X.anyQ {k : List KI} {Q : Po} {id : Nat} (fs : List Fact) (hq : c.q = false) (hm : c.P.follows .mixedOrders = true) (hd : dstsB l [] = true) (hb : backB l 0 = true) (hstep : AllAt (StepOk c l fs ρ0 ds L0) 0 l)
    (hend : ∀ ρ L, (∀ (j : Nat) (o : Oper) d, l[j]? = some o → o.dst = some d → (factAt fs j).holds (ρ d) L) → (∀ t, (∀ o ∈ l, o.dst ≠ some t) → ρ t = ρ0 t) → X c k Q ρ ds L0) : X c (.code (.region id l.toArray true) :: k) Q ρ0 ds L0 := by
  intro w hw
  refine wpIn_mono (wpIn_region_any hm (Q := lift c (nrm (X c k Q) (fun _ _ _ _ => False))) ?_) ?_
  · have := any_all (K := X c k Q) hq hd hb hstep (fun ρ L h1 h2 h3 h4 => ⟨L0, h3, hw.nodup, hend ρ L h1 h2⟩) l.length (Array.replicate l.length false) ρ0 L0 { w with drawn := w.drawn + 1 } (by simp) ⟨by simp, fun _ _ => rfl, fun _ _ _ _ _ _ => rfl, fun j o d hj _ hl => by
      have := (List.getElem?_eq_some_iff.1 hj).1
      simp [Array.getD_eq_getD_getElem?, this] at hl, fun j o hj hl => by
      have := (List.getElem?_eq_some_iff.1 hj).1
      simp [Array.getD_eq_getD_getElem?, this] at hl, fun _ h => h⟩ (hw.drawn _)
    simpa using this
  · rintro e a w' ⟨ρ', ds', L', rfl, hst, h⟩
    cases e with
    | normal => exact ⟨ρ', ds', L', rfl, hst, h⟩
    | _ => exact h.elim
end
end Go.Proofs.YtgmlbaffghogaaaGreatDoor
