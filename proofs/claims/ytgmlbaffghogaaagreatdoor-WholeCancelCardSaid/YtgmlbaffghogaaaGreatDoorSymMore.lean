/- SYM, more: facts out of what is known; dropping; functions against nil; results that lie in a variable; an aggregate that is built. -/
import Derived.Test.YtgmlbaffghogaaaGreatDoorSymEq
import Derived.Test.YtgmlbaffghogaaaGreatDoorSymMem
import Derived.Test.YtgmlbaffghogaaaGreatDoorSymRange
set_option linter.unusedVariables false
set_option linter.unusedSimpArgs false
namespace Go.Proofs.YtgmlbaffghogaaaGreatDoor
open Go.RowKit
instance (priority := low) HasE.left (b : Nat) (o : Obj) (L1 L : List Ent) [h : HasE b o L1] : HasE b o (L1 ++ L) := ⟨List.mem_append_left _ h.out⟩
instance (priority := low) PutE.left (b : Nat) (f : List Value → List Value) (tt : TypeId) (l : List Value) (L0 L L' : List Ent) [h : PutE b f tt l L L'] : PutE b f tt l (L ++ L0) (L' ++ L0) :=
  ⟨let ⟨L1, L2, h1, h2⟩ := h.out; ⟨L1, L2 ++ L0, by rw [h1]; simp, by rw [h2]; simp⟩⟩
/-! short names, for printed texts -/
theorem sb0 (L : List Ent) : L.Sublist L := List.Sublist.refl _
theorem sb1 (L : List Ent) : ([] : List Ent).Sublist L := List.nil_sublist _
theorem sb2 (L1 L2 : List Ent) : L1.Sublist (L1 ++ L2) := List.sublist_append_left _ _
theorem sb3 (L1 L2 L3 : List Ent) : L1.Sublist (L1 ++ L2 ++ L3) := (List.sublist_append_left _ _).trans (List.sublist_append_left _ _)
theorem sb4 {a : Ent} {L1 L2 : List Ent} (h : L1.Sublist L2) : (a :: L1).Sublist (a :: L2) := h.cons_cons a
theorem sb5 {a : Ent} {L1 L2 : List Ent} (h : L1.Sublist L2) : L1.Sublist (a :: L2) := h.cons a
theorem sb6 {L0 L1 L2 : List Ent} (h : L0.Sublist L2) : L0.Sublist (L1 ++ L2) := h.trans (List.sublist_append_right _ _)
theorem pmm {L1 L2 : List Ent} (h : ∀ (_ : BEq Ent) (_ : LawfulBEq Ent) (z : Ent), L1.count z = L2.count z) : L1.Perm L2 := by classical exact List.perm_iff_count.2 (fun z => h _ inferInstance z)
section
variable [BEq Ent] {z a b : Ent} {L1 L2 : List Ent}
theorem pm1 : (L1 ++ L2).count z = L1.count z + L2.count z := List.count_append
theorem pm2 : (a :: L1).count z = L1.count z + if a == z then 1 else 0 := List.count_cons
theorem pm3 : ([] : List Ent).count z = 0 := List.count_nil
end
theorem pm4 {a b : Value} {l : List Value} : (a :: l).set 0 b = b :: l := rfl
theorem pm5 {a b : Value} {l : List Value} {n : Nat} : (a :: l).set (n + 1) b = a :: l.set n b := rfl
theorem pm6 {n : Nat} : n + 0 = n := rfl
section
variable {c : Cx} {k : List KI} {Q Qp : Po} {K : Ko} {ρ : Env} {ds : Ds} {L : List Ent} {ol rest : List Oper}
/-- A fact that the known blocks tell. -/
theorem X.fact {x : Code} {p : Prop} (h1 : ∀ w, St c.w0 c.S w L → p) (h2 : p → X c (.code x :: k) Q ρ ds L) : X c (.code x :: k) Q ρ ds L := fun w hw => h2 (h1 w hw) w hw
theorem RL.drop {L' : List Ent} (hq : c.q = false) (hs : L'.Sublist L) (h : RL c ol rest K Qp ρ ds L') : RL c ol rest K Qp ρ ds L := by
  rw [RL_f hq] at h ⊢
  exact fun w hw => h w (hw.sub hs)
theorem RL.fact {p : Prop} (hq : c.q = false) (h1 : ∀ w, St c.w0 c.S w L → p) (h2 : p → RL c ol rest K Qp ρ ds L) : RL c ol rest K Qp ρ ds L := by
  rw [RL_f hq]
  intro w hw
  have := h2 (h1 w hw)
  rw [RL_f hq] at this
  exact this w hw
theorem RL.perm {L' : List Ent} (hq : c.q = false) (hs : L'.Perm L) (h : RL c ol rest K Qp ρ ds L') : RL c ol rest K Qp ρ ds L := by
  rw [RL_f hq] at h ⊢
  exact fun w hw => h w (hw.perm hs)
variable {d : Option Nat} {ty : TypeId} {pos : String} {af : Array Edge} {g : Option (Nat × Bool)} {t t' : TypeId} {x y : Operand}
theorem run_equalIn_func_nil {P : Program} (w : World) (d : Nat) (t : TypeId) {ps rs : Array TypeId} {b : Bool} (f : Fn) (u v : Array Value) (h : P.underlying t = some (.func ps rs b)) : (Op.equalIn (d + 1) t (.func f u v) .nilFunc).run P w = .ok false w := by
  simp [Op.equalIn, run_underlying h]
theorem run_equal_func_nil {P : Program} (w : World) (t : TypeId) {ps rs : Array TypeId} {b : Bool} (f : Fn) (u v : Array Value) (h : P.underlying t = some (.func ps rs b)) : (Op.equal t (.func f u v) .nilFunc).run P w = .ok false w := run_equalIn_func_nil w 9999 t f u v h
theorem run_neq_func_nil {P : Program} (w : World) (t : TypeId) {ps rs : Array TypeId} {b : Bool} (f : Fn) (u v : Array Value) (h : P.underlying t = some (.func ps rs b)) : (binOp .neq t (.func f u v) .nilFunc).run P w = .ok (.bool true) w := by
  simp only [binOp]
  simp [run_equal_func_nil w t f u v h]
theorem RL.neNilF {ps rs : Array TypeId} {b : Bool} {f : Fn} {u v : Array Value} (hw : wantE c.n ol ρ ⟨d, .binOp .neq t x y t', ty, pos, af, g⟩ = true) (hu : c.P.underlying t = some (.func ps rs b)) (hx : evE c.n ρ x = .func f u v) (hy : evE c.n ρ y = .nilFunc) (h : RL c ol rest K Qp (updO ρ d (.bool true)) ds L) :
    RL c ol (⟨d, .binOp .neq t x y t', ty, pos, af, g⟩ :: rest) K Qp ρ ds L :=
  RL.pure hw rfl (fun w => by
    have hg : (eqGuard .neq t x y (.func f u v) .nilFunc).run c.P w = .ok () w := rfl
    simp only [execOp, hx, hy, Sem.run_bind, hg, Result.andThen_ok, run_neq_func_nil w t f u v hu, Sem.run_pure]) h
end
section
variable {c : Cx} {fn : Func} {R : Value → List Ent → Prop} {ρ : Env} {L : List Ent} {D : Nat}
theorem resc1 {P : Program} {p : Nat} {ty tt : TypeId} (h : fn.results = #[.cell p ty]) {n : Nat} {ds : Ds} {b : Nat} {v : Value} {l : List Value} {fr : Nat × Nat} {w0 w : World} {S : List Nat} (hp : evE n ρ (.tmp p) = .pointer (some ⟨b, 0, none⟩)) (hT : Scalar P ty) (hst : St w0 S w L) (hm : (b, Obj.cells l.toArray tt fr) ∈ L) (hv : l[0]? = some v) :
    (results fn (act n ρ ds).tmps).run P w = .ok v w := by
  have e : (act n ρ ds).tmps[p]?.getD undef = .pointer (some ⟨b, 0, none⟩) := by have := act_get n ρ ds p; rw [← hp]; simpa [evE] using this
  have := run_loadS (P := P) hT (show w.cell? ⟨b, 0, none⟩ = some v by rw [hst.cellO hm, hv])
  simp [results, h, e, asAddr, Sem.run_bind, this]
theorem retc1 {p b : Nat} {ty tt : TypeId} {v : Value} {l : List Value} {fr : Nat × Nat} (hr : fn.results = #[.cell p ty]) (hT : Scalar c.P ty) (hp : evE c.n ρ (.tmp p) = .pointer (some ⟨b, 0, none⟩)) [hm : HasE b (.cells l.toArray tt fr) L] (hv : l[0]? = some v) (h : R v L) : RetQ c fn R .ret ρ [] L :=
  ret_of (fun w hw => resc1 hr hp hT hw hm.out hv) h
theorem retmc1 {p b : Nat} {ty tt : TypeId} {v : Value} {l : List Value} {fr : Nat × Nat} (hr : fn.results = #[.cell p ty]) (hT : Scalar c.P ty) (hp : evE c.n ρ (.tmp p) = .pointer (some ⟨b, 0, none⟩)) [hm : HasE b (.cells l.toArray tt fr) L] (hv : l[0]? = some v) (h : R v L) :
    RetQ c fn R .ret ρ [{ target := .collected D, args := #[] }] ((D, .deferred (some [])) :: L) :=
  leaves_mark (fun w hw => resc1 hr hp hT hw hm.out hv) h
end
/-! Many marks: a range over a function within a loop. -/
def mark (D : Nat) : Deferred := { target := .collected D, args := #[] }
def marks (Ms : List Nat) : Ds := Ms.map mark
def markE (Ms : List Nat) : List Ent := Ms.map fun D => (D, .deferred (some []))
section
variable {c : Cx} {fn : Func} {R : Value → List Ent → Prop} {ρ : Env} {L : List Ent}
theorem leaves_marks {v : Value} (hv : ∀ w, St c.w0 c.S w L → (results fn (act c.n ρ []).tmps).run c.P w = .ok v w) (h : R v L) (ds0 : Ds) (ht : (act c.n ρ ds0).tmps = (act c.n ρ []).tmps) : ∀ (Ms : List Nat) (w : World), St c.w0 c.S w (markE Ms ++ L) →
    LeavesInM (FR none) 0 c.P fn (act c.n ρ ds0).tmps (fun e w' => ∃ v L', e = .returned v ∧ St c.w0 c.S w' L' ∧ R v L') (marks Ms) .returning w := by
  intro Ms
  induction Ms with
  | nil => intro w hw; rw [ht]; exact ⟨v, hv w (by simpa [markE] using hw), v, L, rfl, by simpa [markE] using hw, h⟩
  | cons D Ms ih =>
    intro w hw
    have h1 := St.putObj (L1 := []) (L2 := markE Ms ++ L) hw (.deferred none)
    have h2 : St c.w0 c.S (w.putObj D (.deferred none)) (markE Ms ++ L) := h1.sub (List.Sublist.cons _ (List.Sublist.refl _))
    exact ⟨by simp, .inl ⟨D, _, rfl, run_takeDeferred (hw.own (D, _) List.mem_cons_self), ih _ h2⟩⟩
theorem retms1 {t : Nat} {Ms : List Nat} {L0 : List Ent} (hL : L0.Perm (markE Ms ++ L)) (hr : fn.results = #[.tmp t]) (h : withV (evE c.n ρ (.tmp t)) fun v => R v L) : RetQ c fn R .ret ρ (marks Ms) L0 :=
  fun w hw => leaves_marks (fun w _ => by rw [res1 hr]) (by rw [withV_eq] at h; exact h) (marks Ms) rfl Ms w (hw.perm hL.symm)
end
section
variable {c : Cx} {k : List KI} {Q : Po} {ρ : Env} {ds : Ds} {L : List Ent}
/-- A loop whose rounds may leave marks behind. -/
theorem X.loopD {γ : Type} {x : Code} (I : γ → Env → Ds → List Ent → Prop) (μ : γ → Nat) (g0 : γ) (h0 : ∃ Lp, Lp.Perm L ∧ ∃ L0, L0.Sublist Lp ∧ I g0 ρ ds L0)
    (hr : ∀ g ρ ds L, I g ρ ds L → X c (.code x :: .hyp (fun ρ' ds' L' => ∃ g', μ g' < μ g ∧ ∃ Lp, Lp.Perm L' ∧ ∃ L'', L''.Sublist Lp ∧ I g' ρ' ds' L'') :: k) Q ρ ds L) : X c (.code (.loop x) :: k) Q ρ ds L := by
  intro w hw b kk cs hro hb hroom
  have key : ∀ m g ρ ds L w, μ g = m → I g ρ ds L → St c.w0 c.S w L →
      ∃ e a' w', lift c (xit c Q k) e a' w' ∧ ArrivesIn (Machine.fenced c.P (FR c.rd)) c.P (lone (b.atR (act c.n ρ ds) (.code x :: .inLoop x :: kk)) cs w) b kk cs e a' w' := by
    intro m
    induction m using Nat.strongRecOn with
    | _ m ih =>
      intro g ρ ds L w hm hI hst
      obtain ⟨e, a₁, w₁, hq, harr⟩ := hr g ρ ds L hI w hst b (.inLoop x :: kk) cs hro hb hroom
      obtain ⟨ρ1, ds1, L1, rfl, hst1, hq⟩ := hq
      cases e with
      | normal =>
        obtain ⟨g', hlt, Lp, hp, L'', hsub, hI'⟩ := hq
        obtain ⟨e₂, a₂, w₂, hq₂, harr₂⟩ := ih (μ g') (hm ▸ hlt) g' ρ1 ds1 L'' w₁ rfl hI' ((hst1.perm hp).sub hsub)
        exact ⟨e₂, a₂, w₂, hq₂, .of_steps (StepsIn.trans harr (.one (fenced_calm hb hroom rfl) stepR_inLoop)) harr₂⟩
      | exit id => exact ⟨_, _, w₁, ⟨ρ1, ds1, L1, rfl, hst1, hq⟩, .pass (x := .inLoop x) rfl (fun _ _ => .inl (by simp)) harr⟩
      | goto l => exact ⟨_, _, w₁, ⟨ρ1, ds1, L1, rfl, hst1, hq⟩, .pass (x := .inLoop x) rfl (fun _ _ => .inl (by simp)) harr⟩
      | ret => exact ⟨_, _, w₁, ⟨ρ1, ds1, L1, rfl, hst1, hq⟩, .pass (x := .inLoop x) rfl (fun _ _ => .inl (by simp)) harr⟩
      | panic ch => exact ⟨_, _, w₁, ⟨ρ1, ds1, L1, rfl, hst1, hq⟩, .pass (x := .inLoop x) rfl (fun _ _ => .inl (by simp)) harr⟩
      | outgrown => exact ⟨_, _, w₁, ⟨ρ1, ds1, L1, rfl, hst1, hq⟩, .pass (x := .inLoop x) rfl (fun _ _ => .inl (by simp)) harr⟩
  obtain ⟨Lp, hp, L0, hs0, h0⟩ := h0
  obtain ⟨e, a', w', hq, harr⟩ := key _ g0 ρ ds L0 w rfl h0 ((hw.perm hp).sub hs0)
  exact ⟨e, a', w', hq, .of_steps (.one (fenced_calm hb hroom rfl) stepR_loop) harr⟩
end
theorem permtest (a b d : Ent) (x y : List Ent) : (a :: ((x ++ [b]) ++ (y ++ [d]))).Perm ((a :: y) ++ (x ++ [b, d])) := by
  classical exact List.perm_iff_count.2 (fun z => by simp only [List.count_append, List.count_cons, List.count_nil]; omega)
end Go.Proofs.YtgmlbaffghogaaaGreatDoor
