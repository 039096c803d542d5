/- SYM: a region that draws its order and writes: what is known goes by the set of the operations that are done ('D'); each operation is shown at each set that it may meet. -/
import Derived.Test.YtgmlbaffghogaaaGreatDoorSymAny
set_option linter.unusedVariables false
set_option linter.unusedSimpArgs false
namespace Go.Proofs.YtgmlbaffghogaaaGreatDoor
open Go.RowKit
theorem wpIn_swapQ {F : Fence} {n : Nat} {P : Program} {o : Oper} {a : Act} {w : World} {K K' : Act → World → Prop} {Q Q' : Exit → Act → World → Prop} (hK : ∀ a w, K a w → K' a w) (hQ : ∀ c a w, Q (.panic c) a w → Q' (.panic c) a w) (hL : LetsOut Q → LetsOut Q') (hh : o.wpIn F n P a w K Q) : o.wpIn F n P a w K' Q' := by
  unfold Oper.wpIn at *
  refine ⟨hh.1, ?_⟩
  have hh := hh.2
  generalize (o.semAt F.round a.eval).run P w = r at *
  cases r with
  | ok x w' =>
    cases x <;> simp only [Oper.uponIn] at hh ⊢ <;>
      first
        | exact hK _ _ hh
        | exact ⟨hh.1, CallsIn.mono hh.2 (fun e w'' he => by cases e <;> first | exact hK _ _ he | exact hQ _ _ _ he | exact hL he)⟩
        | exact ⟨hh.1, RowsIn.mono hh.2 (fun _ _ he => hK _ _ he)⟩
        | exact ⟨hh.1, RoundIn.mono hh.2 (fun e w'' he => by cases e <;> first | exact hK _ _ he | exact hQ _ _ _ he | exact hL he)⟩
  | halt x w' => cases x <;> simp only [Oper.uponIn] at hh ⊢ <;> first | exact hQ _ _ _ hh | exact hh
/-- Each operation waits for earlier ones alone. -/
def backC : List Oper → Nat → Bool
  | [], _ => true
  | o :: l, k => o.after.toList.all (fun e => !(Region.binds .any e) || Nat.blt e.on k) && backC l (k + 1)
theorem backC_get : ∀ {l : List Oper} {k : Nat}, backC l k = true → ∀ (i : Nat) (o : Oper), l[i]? = some o → ∀ e ∈ o.after, Region.binds .any e = true → e.on < k + i
  | [], _, _, i, o, h, _, _, _ => by simp at h
  | x :: l, k, hb, i, o, h, e, he, hbd => by
    simp only [backC, Bool.and_eq_true] at hb
    cases i with
    | zero =>
      simp at h; subst h
      have := List.all_eq_true.1 hb.1 e (by simpa using he)
      rw [hbd] at this
      simp only [Bool.not_true, Bool.false_or, Nat.blt_eq] at this; omega
    | succ i =>
      have := backC_get hb.2 i o (by simpa using h) e he hbd
      omega
/-- 'cl': of each operation those that it waits for, through others too. -/
def clB (l : List Oper) (cl : List (List Nat)) : Nat → List Oper → Bool
  | _, [] => true
  | i, o :: r => (cl.getD i []).all (fun q => o.after.toList.any (fun e => Region.binds .any e && (e.on == q || (cl.getD e.on []).contains q))) && clB l cl (i + 1) r
theorem clB_get {l : List Oper} {cl : List (List Nat)} : ∀ {r : List Oper} {k : Nat}, clB l cl k r = true → ∀ (i : Nat) (o : Oper), r[i]? = some o → ∀ q ∈ cl.getD (k + i) [], ∃ e ∈ o.after, Region.binds .any e = true ∧ (e.on = q ∨ q ∈ cl.getD e.on [])
  | [], _, _, i, o, h => by simp at h
  | x :: r, k, hb, i, o, h => by
    simp only [clB, Bool.and_eq_true] at hb
    cases i with
    | zero =>
      simp at h; subst h
      intro q hq
      have := List.all_eq_true.1 hb.1 q (by simpa using hq)
      obtain ⟨e, he, h2⟩ := List.any_eq_true.1 this
      simp only [Bool.and_eq_true, Bool.or_eq_true, beq_iff_eq] at h2
      exact ⟨e, by simpa using he, h2.1, h2.2.imp id (fun h => by simpa using h)⟩
    | succ i =>
      have := clB_get hb.2 i o (by simpa using h)
      rwa [show k + 1 + i = k + (i + 1) by omega] at this
/-- What is known when operation i is done. -/
structure Stg (l : List Oper) (fs : List Fact) (cl : List (List Nat)) (SP : (Nat → Bool) → Env → List Ent → Prop) (ρ0 : Env) (i : Nat) (o : Oper) (ρ : Env) (L : List Ent) (D : Nat → Bool) : Prop where
  dep : ∀ e ∈ o.after, Region.binds .any e = true → ∀ (o' : Oper) d, l[e.on]? = some o' → o'.dst = some d → (factAt fs e.on).holds (ρ d) []
  fix : ∀ t, (∀ o ∈ l, o.dst ≠ some t) → ρ t = ρ0 t
  old : ∀ (k : Nat) (o' : Oper) d, l[k]? = some o' → o'.dst = some d → (∃ e ∈ o'.after, Region.binds .any e = true ∧ e.on = i) → ρ d = ρ0 d
  low : ∀ q, q ∈ cl.getD i [] → D q = true
  up : ∀ q, q < l.length → i ∈ cl.getD q [] → D q = false
  self : D i = false
  sp : SP D ρ L
section
variable {l : List Oper} {fs : List Fact} {cl : List (List Nat)} {SP : (Nat → Bool) → Env → List Ent → Prop} {ρ0 : Env} {i : Nat} {o : Oper} {ρ : Env} {L : List Ent} {D : Nat → Bool}
theorem Stg.lo (h : Stg l fs cl SP ρ0 i o ρ L D) (q : Nat) (hr : (cl.getD i []).contains q = true) (hq : D q = false) {p : Prop} : p := by
  have := h.low q (by simpa using hr); rw [hq] at this; cases this
theorem Stg.hi (h : Stg l fs cl SP ρ0 i o ρ L D) (q : Nat) (hl : Nat.blt q l.length = true) (hr : (cl.getD q []).contains i = true) (hq : D q = true) {p : Prop} : p := by
  have := h.up q (by simpa [Nat.blt_eq] using hl) (by simpa using hr); rw [hq] at this; cases this
theorem Stg.me (h : Stg l fs cl SP ρ0 i o ρ L D) (hq : D i = true) {p : Prop} : p := by
  have := h.self; rw [hq] at this; cases this
end
def StgOk (c : Cx) (l : List Oper) (fs : List Fact) (cl : List (List Nat)) (SP : (Nat → Bool) → Env → List Ent → Prop) (ρ0 : Env) (ds : Ds) (Qp : Po) (i : Nat) (o : Oper) : Prop :=
  ∀ ρ L D, Stg l fs cl SP ρ0 i o ρ L D → RL c l [o] (fun ρ2 ds2 L2 => ds2 = ds ∧ (∃ v, ρ2 = updO ρ o.dst v ∧ (factAt fs i).holds v []) ∧ SP (fun q => q == i || D q) ρ2 L2) Qp ρ ds L
structure MidT (l : List Oper) (fs : List Fact) (SP : (Nat → Bool) → Env → List Ent → Prop) (ρ0 : Env) (listed : Array Bool) (ρ : Env) (L : List Ent) : Prop where
  size : listed.size = l.length
  fix : ∀ t, (∀ o ∈ l, o.dst ≠ some t) → ρ t = ρ0 t
  old : ∀ (k : Nat) (o : Oper) d, l[k]? = some o → o.dst = some d → listed.getD k true = false → ρ d = ρ0 d
  told : ∀ (k : Nat) (o : Oper) d, l[k]? = some o → o.dst = some d → listed.getD k false = true → (factAt fs k).holds (ρ d) []
  down : ∀ (k : Nat) (o : Oper), l[k]? = some o → listed.getD k false = true → ∀ e ∈ o.after, Region.binds .any e = true → listed.getD e.on false = true
  sp : SP (fun q => listed.getD q false) ρ L
theorem cl_listed {l : List Oper} {cl : List (List Nat)} {listed : Array Bool} (hc : clB l cl 0 l = true) (hb : backC l 0 = true) (hd : ∀ (k : Nat) (o : Oper), l[k]? = some o → listed.getD k false = true → ∀ e ∈ o.after, Region.binds .any e = true → listed.getD e.on false = true) :
    ∀ n (i : Nat) (o : Oper), i < n → l[i]? = some o → (∀ e ∈ o.after, Region.binds .any e = true → listed.getD e.on false = true) → ∀ q ∈ cl.getD i [], listed.getD q false = true := by
  intro n
  induction n with
  | zero => intro i o hi; omega
  | succ n ih =>
    intro i o hi ho hdep q hq
    obtain ⟨e, he, hbd, h⟩ := clB_get hc i o ho q (by simpa using hq)
    have hl := hdep e he hbd
    rcases h with rfl | h
    · exact hl
    · have hlt := backC_get hb i o ho e he hbd
      have hil := (List.getElem?_eq_some_iff.1 ho).1
      have ho2 : l[e.on]? = some (l[e.on]'(by omega)) := List.getElem?_eq_getElem (by omega)
      exact ih e.on _ (by omega) ho2 (fun e2 h2 hb2 => hd e.on _ ho2 hl e2 h2 hb2) q h
theorem done_no {D : Nat → Bool} {n : Nat} (h : ∀ q, q < n → D q = true) (q : Nat) (hq : Nat.blt q n = true) (e : D q = false) {p : Prop} : p := by
  have := h q (by simpa [Nat.blt_eq] using hq); rw [e] at this; cases this
section
variable {c : Cx} {l : List Oper} {fs : List Fact} {cl : List (List Nat)} {SP : (Nat → Bool) → Env → List Ent → Prop} {ρ0 : Env} {ds : Ds} {K : Ko} {Qp : Po}
theorem set_all (hq : c.q = false) (hd : dstsB l [] = true) (hb : backC l 0 = true) (hcl : clB l cl 0 l = true) (hstep : AllAt (StgOk c l fs cl SP ρ0 ds Qp) 0 l)
    (hend : ∀ ρ L D, (∀ q, q < l.length → D q = true) → (∀ (j : Nat) (o : Oper) d, l[j]? = some o → o.dst = some d → (factAt fs j).holds (ρ d) []) → (∀ t, (∀ o ∈ l, o.dst ≠ some t) → ρ t = ρ0 t) → SP D ρ L → ∃ Lp, Lp.Perm L ∧ ∃ L', L'.Sublist Lp ∧ K ρ ds L') :
    ∀ (fuel : Nat) (listed : Array Bool) (ρ : Env) (L : List Ent) (w : World), listed.toList.count false = fuel → MidT l fs SP ρ0 listed ρ L → St c.w0 c.S w L →
      wpAnyIn (FR c.rd) 0 c.P .any l.toArray (lift c (nrm K Qp)) fuel listed (act c.n ρ ds) w := by
  have fin : ∀ (listed : Array Bool) (ρ : Env) (L : List Ent) (w : World), Region.ready .any l.toArray listed = [] → MidT l fs SP ρ0 listed ρ L → St c.w0 c.S w L → lift c (nrm K Qp) .normal (act c.n ρ ds) w := by
    intro listed ρ L w hr hm hst
    have hall : ∀ j, j < l.length → listed.getD j false = true := by
      intro j
      induction j using Nat.strongRecOn with
      | _ j ih =>
        intro hj
        by_cases hu : listed.getD j true = false
        · exfalso
          have : j ∈ Region.ready .any l.toArray listed := mem_ready.2 ⟨hu, l[j], by simp [hj], fun e he hbd => ih e.on (by have := backC_get hb j _ (List.getElem?_eq_getElem hj) e he hbd; omega) (by have := backC_get hb j _ (List.getElem?_eq_getElem hj) e he hbd; omega)⟩
          rw [hr] at this; cases this
        · exact listed_of (by rw [hm.size]; exact hj) hu
    obtain ⟨Lp, hp, L', hs, hK⟩ := hend ρ L _ hall (fun k o d ho hdd => hm.told k o d ho hdd (hall k (List.getElem?_eq_some_iff.1 ho).1)) hm.fix hm.sp
    exact ⟨ρ, ds, L', rfl, (hst.perm hp).sub hs, hK⟩
  intro fuel
  induction fuel with
  | zero =>
    intro listed ρ L w hc hm hst
    have hr : Region.ready .any l.toArray listed = [] := by
      apply List.eq_nil_iff_forall_not_mem.2
      intro i hi
      have := count_set (mem_ready.1 hi).1
      omega
    exact ⟨hr, fin listed ρ L w hr hm hst⟩
  | succ fuel ih =>
    intro listed ρ L w hc hm hst
    refine ⟨fun hr => fin listed ρ L w hr hm hst, fun i hi => ?_⟩
    obtain ⟨hu, o, ho, hdeps⟩ := mem_ready.1 hi
    have ho' : l[i]? = some o := by simpa using ho
    have hil : i < listed.size := by rw [hm.size]; exact (List.getElem?_eq_some_iff.1 ho').1
    have hun := not_listed hu
    have hrl := cl_listed hcl hb hm.down (i + 1) i o (by omega) ho' hdeps
    have hstep' := hstep.get i o ho'
    rw [Nat.zero_add] at hstep'
    have h1 := hstep' ρ L (fun q => listed.getD q false) ⟨fun e he hbd o' d ho2 hd2 => hm.told e.on o' d ho2 hd2 (hdeps e he hbd), hm.fix,
      (fun k o' d hk hdk ⟨e, he, hbd, hei⟩ => hm.old k o' d hk hdk (by
        cases hlj : listed.getD k true with
        | false => rfl
        | true =>
          exfalso
          have hjl : k < listed.size := by rw [hm.size]; exact (List.getElem?_eq_some_iff.1 hk).1
          have h2 := hm.down k o' hk (listed_of hjl (by rw [hlj]; simp)) e he hbd
          rw [hei, hun] at h2; cases h2)),
      hrl,
      (fun q hql hiq => by
        show listed.getD q false = false
        apply Bool.eq_false_iff.2
        intro hlq
        have h3 := List.getElem?_eq_getElem hql
        have := cl_listed hcl hb hm.down (q + 1) q _ (by omega) h3 (fun e he hbd => hm.down q _ h3 hlq e he hbd) i hiq
        rw [hun] at this; cases this),
      hun, hm.sp⟩
    rw [RL_f hq] at h1
    have h2 := h1 w hst
    unfold wpOpIn
    simp only [List.getElem?_toArray, ho']
    simp only [wpListIn] at h2
    have next : ∀ a' w', lift c (nrm (fun ρ2 ds2 L2 => ds2 = ds ∧ (∃ v, ρ2 = updO ρ o.dst v ∧ (factAt fs i).holds v []) ∧ SP (fun q => q == i || listed.getD q false) ρ2 L2) Qp) .normal a' w' →
        wpAnyIn (FR c.rd) 0 c.P .any l.toArray (lift c (nrm K Qp)) fuel (listed.setIfInBounds i true) a' w' := by
      rintro a' w' ⟨ρ2, ds2, L2, rfl, hst2, rfl, ⟨v, rfl, hF⟩, hsp⟩
      refine ih _ _ L2 w' (by have := count_set hu; omega) ?_ hst2
      have hne : ∀ (k : Nat) (o' : Oper) d, l[k]? = some o' → o'.dst = some d → k ≠ i → updO ρ o.dst v d = ρ d := by
        intro k o' d hk hdk hji
        cases hod : o.dst with
        | none => rfl
        | some e =>
          have : d ≠ e := fun hde => hji (dstsB_inj hd k i o' o d hk ho' hdk (by rw [hod, hde]))
          exact upd_ne _ _ this
      have hD : (fun q => (listed.setIfInBounds i true).getD q false) = (fun q => q == i || listed.getD q false) := by
        funext q
        rw [getD_set_eq hil]
        by_cases hiq : i = q
        · subst hiq; simp
        · rw [if_neg hiq, beq_false_of_ne (Ne.symm hiq)]; rfl
      refine ⟨by simpa using hm.size, fun t ht => ?_, fun k o' d hk hdk hlj => ?_, fun k o' d hk hdk hlj => ?_, fun k o' hk hlj e he hbd => ?_, by rw [hD]; exact hsp⟩
      · cases hod : o.dst with
        | none => exact hm.fix t ht
        | some e =>
          have : t ≠ e := fun hte => ht o (List.mem_of_getElem? ho') (by rw [hod, hte])
          simp only [updO]; rw [upd_ne _ _ this]; exact hm.fix t ht
      · rw [getD_set_eq hil] at hlj
        by_cases hij : i = k
        · rw [if_pos hij] at hlj; cases hlj
        · rw [if_neg hij] at hlj
          rw [hne k o' d hk hdk (Ne.symm hij)]; exact hm.old k o' d hk hdk hlj
      · rw [getD_set_eq hil] at hlj
        by_cases hij : i = k
        · subst hij
          rw [ho'] at hk; obtain rfl := Option.some.inj hk
          rw [hdk]; simp only [updO]; rw [upd_same]; exact hF
        · rw [if_neg hij] at hlj
          rw [hne k o' d hk hdk (Ne.symm hij)]; exact hm.told k o' d hk hdk hlj
      · rw [getD_set_eq hil] at hlj ⊢
        by_cases hei : i = e.on
        · rw [if_pos hei]
        · rw [if_neg hei]
          by_cases hij : i = k
          · subst hij
            rw [ho'] at hk; obtain rfl := Option.some.inj hk
            exact hdeps e he hbd
          · rw [if_neg hij] at hlj; exact hm.down k o' hk hlj e he hbd
    split
    · rename_i hw
      rw [if_pos hw] at h2
      exact wpIn_swapQ next (fun cc a w h => h) (fun h => h) h2
    · rename_i hw
      rw [if_neg hw] at h2
      exact ⟨h2.1, next _ _ h2.2⟩
/-- **A region that draws its order and writes**, in a round or outside of all. -/
theorem X.set {k : List KI} {Q : Po} {id : Nat} {L0 : List Ent} (fs : List Fact) (cl : List (List Nat)) (SP : (Nat → Bool) → Env → List Ent → Prop) (hq : c.q = false) (hm : c.P.follows .mixedOrders = true) (hd : dstsB l [] = true) (hb : backC l 0 = true) (hcl : clB l cl 0 l = true) (h0 : ∀ D, (∀ q, D q = false) → SP D ρ0 L0) (hstep : AllAt (StgOk c l fs cl SP ρ0 ds (xit c Q k)) 0 l)
    (hend : ∀ ρ L D, (∀ q, q < l.length → D q = true) → (∀ (j : Nat) (o : Oper) d, l[j]? = some o → o.dst = some d → (factAt fs j).holds (ρ d) []) → (∀ t, (∀ o ∈ l, o.dst ≠ some t) → ρ t = ρ0 t) → SP D ρ L → ∃ Lp, Lp.Perm L ∧ ∃ L', L'.Sublist Lp ∧ X c k Q ρ ds L') : X c (.code (.region id l.toArray true) :: k) Q ρ0 ds L0 := by
  intro w hw
  refine wpIn_mono (wpIn_region_any hm (Q := lift c (nrm (X c k Q) (xit c Q k))) ?_) ?_
  · have nol : ∀ q, (Array.replicate l.length false).getD q false = true → False := fun q hl => by
      by_cases hql : q < l.length
      · simp [Array.getD_eq_getD_getElem?, hql] at hl
      · simp [Array.getD_eq_getD_getElem?, hql] at hl
    have := set_all (K := X c k Q) hq hd hb hcl hstep hend l.length (Array.replicate l.length false) ρ0 L0 { w with drawn := w.drawn + 1 } (by simp) ⟨by simp, fun _ _ => rfl, fun _ _ _ _ _ _ => rfl, fun j o d hj _ hl => (nol _ hl).elim, fun j o hj hl => (nol _ hl).elim, h0 _ (fun q => by
      cases hql : (Array.replicate l.length false).getD q false with
      | false => rfl
      | true => exact (nol q hql).elim)⟩ (hw.drawn _)
    simpa using this
  · rintro e a w' ⟨ρ', ds', L', rfl, hst, h⟩
    rw [nrm_xit] at h
    exact ⟨ρ', ds', L', rfl, hst, h⟩
end
end Go.Proofs.YtgmlbaffghogaaaGreatDoor
