/- WholeFar: Sym, SymOps, SymEq, SymMem. -/
import Derived.ChangeKeysEq
import Derived.Deep.Quiet
import Derived.Laws.StructEq
import Derived.OrdersHeld
import Derived.RangeFuncCalls
import Derived.RangeFuncLeaves
import Derived.RangeFuncSeq
import Derived.Scope
import Derived.TacticsIn
import Derived.WalkKit
section
set_option linter.unusedVariables false
set_option linter.unusedSimpArgs false
namespace Go.Proofs.YtpcdcemcjbeajaaGreatDoor
open Go.RowKit
abbrev Env := Nat → Value
abbrev Ds := List Deferred
abbrev Ent := Nat × Obj
def upd (ρ : Env) (d : Nat) (v : Value) : Env := fun t => cond (Nat.beq t d) v (ρ t)
def updO (ρ : Env) : Option Nat → Value → Env
  | some d, v => upd ρ d v
  | none, _ => ρ
def evE (n : Nat) (ρ : Env) : Operand → Value
  | .tmp t => cond (Nat.blt t n) (ρ t) undef
  | .const v => v
  | .global g => .pointer (some ⟨g, 0, none⟩)
  | .func f => .func (.func f) #[] #[]
def act (n : Nat) (ρ : Env) (ds : Ds) : Act := { tmps := Array.ofFn (fun i : Fin n => ρ i.val), defers := ds }
theorem blt_true {a b : Nat} (h : a < b) : Nat.blt a b = true := by simpa [Nat.blt_eq] using h
theorem blt_false {a b : Nat} (h : ¬ a < b) : Nat.blt a b = false := by
  cases hb : Nat.blt a b with
  | false => rfl
  | true => rw [Nat.blt_eq] at hb; exact absurd hb h
theorem beq_self (a : Nat) : Nat.beq a a = true := by simp
theorem beq_ne {a b : Nat} (h : a ≠ b) : Nat.beq a b = false := by
  cases hb : Nat.beq a b with
  | false => rfl
  | true => exact absurd (Nat.eq_of_beq_eq_true hb) h
theorem upd_same (ρ : Env) (d : Nat) (v : Value) : upd ρ d v d = v := by simp [upd]
theorem upd_ne (ρ : Env) {d t : Nat} (v : Value) (h : t ≠ d) : upd ρ d v t = ρ t := by simp [upd, beq_ne h]
theorem upd_self {ρ : Env} {d : Nat} {v : Value} (h : ρ d = v) : upd ρ d v = ρ := by
  funext t
  by_cases e : t = d
  · subst e; rw [upd_same, h]
  · rw [upd_ne _ _ e]
def Has (ρ : Env) : List (Nat × Value) → Prop
  | [] => True
  | p :: l => ρ p.1 = p.2 ∧ Has ρ l
def updL (ρ : Env) : List (Nat × Value) → Env
  | [] => ρ
  | p :: l => upd (updL ρ l) p.1 p.2
theorem Has.eq {ρ : Env} : ∀ {l : List (Nat × Value)}, Has ρ l → updL ρ l = ρ
  | [], _ => rfl
  | p :: l, h => by simp only [updL]; rw [Has.eq h.2, upd_self h.1]
theorem Has.base {ρ : Env} {l : List (Nat × Value)} (h : Has ρ l) : ∃ base, ρ = updL base l := ⟨ρ, h.eq.symm⟩
theorem act_get (n : Nat) (ρ : Env) (ds : Ds) (t : Nat) : (act n ρ ds).tmps.getD t undef = cond (Nat.blt t n) (ρ t) undef := by
  by_cases h : t < n
  · simp [act, blt_true h, h]
  · simp [act, blt_false h, h]
theorem act_get? (n : Nat) (ρ : Env) (ds : Ds) (t : Nat) : (act n ρ ds).tmps[t]? = cond (Nat.blt t n) (some (ρ t)) none := by
  by_cases h : t < n
  · simp [act, blt_true h, h]
  · simp [act, blt_false h, h]
theorem act_eval (n : Nat) (ρ : Env) (ds : Ds) : (act n ρ ds).eval = evE n ρ := by
  funext x
  cases x with
  | tmp t => exact act_get n ρ ds t
  | _ => rfl
theorem act_put (n : Nat) (ρ : Env) (ds : Ds) (o : Option Nat) (v : Value) : (act n ρ ds).put o v = act n (updO ρ o v) ds := by
  cases o with
  | none => rfl
  | some d =>
    simp only [act, Act.put, updO]
    congr 1
    apply Array.ext
    · simp
    · intro i h1 h2
      simp only [Array.size_setIfInBounds, Array.size_ofFn] at h1
      rw [Array.getElem_setIfInBounds (by simpa using h1)]
      by_cases e : d = i
      · subst e; simp [upd_same]
      · simp [e, upd_ne _ _ (Ne.symm e)]
def ylE (n : Nat) (ol : List Oper) (ρ : Env) (j : Nat) : Option Bool :=
  match ((ol[j]?).bind (·.dst)) with
  | some d => (match cond (Nat.blt d n) (ρ d) undef with | .bool b => some b | _ => none)
  | none => none
theorem yl_act (n : Nat) (ol : List Oper) (ρ : Env) (ds : Ds) : yielded ol.toArray (act n ρ ds).tmps = ylE n ol ρ := by
  funext j
  unfold yielded ylE
  simp only [List.getElem?_toArray]
  cases h : (ol[j]?).bind (·.dst) with
  | none => rfl
  | some d =>
    simp only [Option.bind_some]
    rw [act_get?]
    by_cases hd : d < n
    · simp only [blt_true hd, cond_true]
      cases ρ d <;> rfl
    · simp [blt_false hd, undef]
def wantE (n : Nat) (ol : List Oper) (ρ : Env) (o : Oper) : Bool :=
  match o.guard with
  | none => true
  | some (j, want) => (match ylE n ol ρ j, want with | some true, true => true | some false, false => true | _, _ => false)
theorem want_act (n : Nat) (ol : List Oper) (ρ : Env) (ds : Ds) (o : Oper) : Region.wanted o (yielded ol.toArray (act n ρ ds).tmps) = wantE n ol ρ o := by
  rw [yl_act]
  unfold Region.wanted wantE
  cases o.guard with
  | none => rfl
  | some p =>
    obtain ⟨j, want⟩ := p
    simp only []
    generalize ylE n ol ρ j = y
    cases y with
    | none => cases want <;> rfl
    | some b => cases b <;> cases want <;> rfl
def envOf (args : List Value) : Env := fun t => args.getD t undef
theorem act_init (n : Nat) (args : List Value) : ({ tmps := args.toArray ++ Array.replicate (n - args.toArray.size) undef, defers := [] } : Act) = act (max n args.length) (envOf args) [] := by
  simp only [act]
  congr 1
  apply Array.ext
  · simp; omega
  · intro i h1 h2
    rw [Array.getElem_append]
    split
    · rename_i h; simp at h; simp [envOf, h]
    · rename_i h; simp at h; simp [envOf, h]
structure St (w0 : World) (S : List Nat) (w : World) (L : List Ent) : Prop where
  os : w.os = w0.os
  tape : w.tape = w0.tape
  output : w.output = w0.output
  size : w0.heap.size ≤ w.heap.size
  keep : ∀ k, k < w0.heap.size → k ∉ S → w.heap[k]? = w0.heap[k]?
  own : ∀ p ∈ L, w.heap[p.1]? = some p.2
  free : ∀ p ∈ L, p.1 ∈ S ∨ w0.heap.size ≤ p.1
  nodup : (L.map (·.1)).Nodup
def keys (L : List Ent) : List Nat := L.map (·.1)
theorem St.init {w : World} {L : List Ent} (h : ∀ p ∈ L, w.heap[p.1]? = some p.2) (hn : (keys L).Nodup) : St w (keys L) w L :=
  ⟨rfl, rfl, rfl, Nat.le_refl _, fun _ _ _ => rfl, h, fun p hp => .inl (List.mem_map.2 ⟨p, hp, rfl⟩), hn⟩
theorem St.refl (w : World) : St w [] w [] := St.init (L := []) (fun _ h => by cases h) List.nodup_nil
theorem St.below {w0 w : World} {L : List Ent} (h : St w0 [] w L) : Below w0.heap.size w0 w := ⟨h.os, h.tape, h.output, h.size, fun k hk => h.keep k hk (by simp)⟩
section
variable {w0 w w' : World} {S : List Nat} {L L' L1 L2 : List Ent}
theorem St.drawn (h : St w0 S w L) (d : Nat) : St w0 S { w with drawn := d } L := ⟨h.os, h.tape, h.output, h.size, h.keep, h.own, h.free, h.nodup⟩
theorem St.sub (h : St w0 S w L) (hs : L'.Sublist L) : St w0 S w L' :=
  ⟨h.os, h.tape, h.output, h.size, h.keep, fun p hp => h.own p (hs.subset hp), fun p hp => h.free p (hs.subset hp), h.nodup.sublist (hs.map _)⟩
theorem St.perm (h : St w0 S w L) (hs : L'.Perm L) : St w0 S w L' :=
  ⟨h.os, h.tape, h.output, h.size, h.keep, fun p hp => h.own p (hs.mem_iff.1 hp), fun p hp => h.free p (hs.mem_iff.1 hp), ((hs.map _).nodup_iff).2 h.nodup⟩
theorem St.lt (h : St w0 S w L) {p : Ent} (hp : p ∈ L) : p.1 < w.heap.size := (Array.getElem?_eq_some_iff.1 (h.own p hp)).1
theorem St.alloc (h : St w0 S w L) (o : Obj) : St w0 S (w.alloc o) ((w.heap.size, o) :: L) := by
  refine ⟨h.os, h.tape, h.output, Nat.le_trans h.size (by simp), fun k hk hS => ?_, fun p hp => ?_, fun p hp => ?_, ?_⟩
  · rw [Below.heap_alloc _ _ _ (Nat.lt_of_lt_of_le hk h.size)]; exact h.keep k hk hS
  · rcases List.mem_cons.1 hp with rfl | hp
    · exact World.alloc_heap_new w o
    · rw [Below.heap_alloc _ _ _ (h.lt hp)]; exact h.own p hp
  · rcases List.mem_cons.1 hp with rfl | hp
    · exact .inr h.size
    · exact h.free p hp
  · simp only [List.map_cons, List.nodup_cons]
    refine ⟨fun hm => ?_, h.nodup⟩
    obtain ⟨p, hp, he⟩ := List.mem_map.1 hm
    have := h.lt hp
    omega
theorem St.put {b : Nat} {o : Obj} (h : St w0 S w (L1 ++ (b, o) :: L2)) (o' : Obj) (hw : w'.heap = w.heap.setIfInBounds b o') (hos : w'.os = w.os) (ht : w'.tape = w.tape) (hout : w'.output = w.output) :
    St w0 S w' (L1 ++ (b, o') :: L2) := by
  have hlt : b < w.heap.size := h.lt (p := (b, o)) (by simp)
  have hne : ∀ p ∈ L1 ++ L2, p.1 ≠ b := by
    intro p hp e
    have hn := h.nodup
    simp only [List.map_append, List.map_cons] at hn
    have hp' : p.1 ∈ L1.map (·.1) ++ L2.map (·.1) := by
      rw [← List.map_append]; exact List.mem_map.2 ⟨p, hp, rfl⟩
    have hn2 := (List.perm_middle.nodup_iff).1 hn
    rw [List.nodup_cons] at hn2
    exact hn2.1 (e ▸ hp')
  refine ⟨hos.trans h.os, ht.trans h.tape, hout.trans h.output, by rw [hw]; simpa using h.size, fun k hk hS => ?_, fun p hp => ?_, fun p hp => ?_, ?_⟩
  · have hkb : k ≠ b := fun e => by
      subst e
      rcases h.free (k, o) (by simp) with hf | hf
      · exact hS hf
      · simp only at hf; omega
    rw [hw, Array.getElem?_setIfInBounds_ne (Ne.symm hkb)]
    exact h.keep k hk hS
  · by_cases e : p.1 = b
    · have : p = (b, o') := by
        rcases List.mem_append.1 hp with hp | hp
        · exact absurd e (hne p (List.mem_append_left _ hp))
        · rcases List.mem_cons.1 hp with hp | hp
          · exact hp
          · exact absurd e (hne p (List.mem_append_right _ hp))
      subst this
      rw [hw]; simp [hlt]
    · rw [hw, Array.getElem?_setIfInBounds_ne (Ne.symm e)]
      refine h.own p ?_
      rcases List.mem_append.1 hp with hp | hp
      · exact List.mem_append_left _ hp
      · rcases List.mem_cons.1 hp with hp | hp
        · exact absurd (by rw [hp]) e
        · exact List.mem_append_right _ (List.mem_cons_of_mem _ hp)
  · rcases List.mem_append.1 hp with hp | hp
    · exact h.free p (List.mem_append_left _ hp)
    · rcases List.mem_cons.1 hp with hp | hp
      · subst hp; exact h.free (b, o) (by simp)
      · exact h.free p (List.mem_append_right _ (List.mem_cons_of_mem _ hp))
  · have := h.nodup; simpa using this
theorem St.comp {Lp Lr : List Ent} (h : St w0 S w (Lp ++ Lr)) (h' : St w (keys Lp) w' L') : St w0 S w' (L' ++ Lr) := by
  have hn := h.nodup
  rw [List.map_append, List.nodup_append] at hn
  have hr : ∀ p ∈ Lr, p.1 ∉ keys Lp := fun p hp hk => hn.2.2 p.1 hk p.1 (List.mem_map.2 ⟨p, hp, rfl⟩) rfl
  refine ⟨h'.os.trans h.os, h'.tape.trans h.tape, h'.output.trans h.output, Nat.le_trans h.size h'.size, fun k hk hS => ?_, fun p hp => ?_, fun p hp => ?_, ?_⟩
  · rw [h'.keep k (Nat.lt_of_lt_of_le hk h.size) (fun hm => ?_)]
    · exact h.keep k hk hS
    · obtain ⟨p, hp, rfl⟩ := List.mem_map.1 hm
      rcases h.free p (List.mem_append_left _ hp) with hf | hf
      · exact hS hf
      · omega
  · rcases List.mem_append.1 hp with hp | hp
    · exact h'.own p hp
    · rw [h'.keep p.1 (h.lt (List.mem_append_right _ hp)) (hr p hp)]
      exact h.own p (List.mem_append_right _ hp)
  · rcases List.mem_append.1 hp with hp | hp
    · rcases h'.free p hp with hf | hf
      · obtain ⟨q, hq, e⟩ := List.mem_map.1 hf
        rw [← e]; exact h.free q (List.mem_append_left _ hq)
      · exact .inr (Nat.le_trans h.size hf)
    · exact h.free p (List.mem_append_right _ hp)
  · rw [List.map_append, List.nodup_append]
    refine ⟨h'.nodup, hn.2.1, fun a ha b hb e => ?_⟩
    subst e
    obtain ⟨p, hp, rfl⟩ := List.mem_map.1 ha
    obtain ⟨q, hq, e⟩ := List.mem_map.1 hb
    rcases h'.free p hp with hf | hf
    · exact hr q hq (e ▸ hf)
    · have := h.lt (List.mem_append_right Lp hq); omega
end
structure Cx where
  P : Program
  rd : Option Nat
  n : Nat
  w0 : World
  S : List Nat
  q : Bool
abbrev Po := Exit → Env → Ds → List Ent → Prop
abbrev Ko := Env → Ds → List Ent → Prop
def FR (rd : Option Nat) : Fence := { Fence.wide with round := rd }
theorem FR_none : FR none = Fence.wide := rfl
theorem FR_fn (rd : Option Nat) (f : FuncId) : (FR rd).fn f := trivial
theorem FR_depth (rd : Option Nat) : (FR rd).depth.isSome = true → 1 ≤ 0 := fun h => by simp [FR, Fence.wide] at h
def lift (c : Cx) (Q : Po) : Exit → Act → World → Prop := fun e a w => ∃ ρ ds L, a = act c.n ρ ds ∧ St c.w0 c.S w L ∧ Q e ρ ds L
def W (c : Cx) (x : Code) (Q : Po) (ρ : Env) (ds : Ds) (L : List Ent) : Prop := ∀ w, St c.w0 c.S w L → x.wpIn (FR c.rd) 0 c.P (lift c Q) (act c.n ρ ds) w
theorem W.mono {c : Cx} {x : Code} {Q Q' : Po} {ρ : Env} {ds : Ds} {L : List Ent} (h : W c x Q ρ ds L) (hq : ∀ e ρ ds L, Q e ρ ds L → Q' e ρ ds L) : W c x Q' ρ ds L :=
  fun w hw => wpIn_mono (h w hw) fun _ _ _ ⟨ρ, ds, L, h1, h2, h3⟩ => ⟨ρ, ds, L, h1, h2, hq _ _ _ _ h3⟩
inductive KI where
  | code (x : Code)
  | blk (id : Nat)
  | scp
  | hyp (K : Ko)
def xit (c : Cx) (Q : Po) : List KI → Po
  | [] => Q
  | .code x :: k => fun e ρ ds L => match e with | .normal => W c x (xit c Q k) ρ ds L | e => xit c Q k e ρ ds L
  | .blk id :: k => fun e ρ ds L => match e with | .exit id' => if id' = id then xit c Q k .normal ρ ds L else xit c Q k (.exit id') ρ ds L | e => xit c Q k e ρ ds L
  | .scp :: k => fun e ρ ds L => match e with | .goto _ => False | e => xit c Q k e ρ ds L
  | .hyp K :: k => fun e ρ ds L => match e with | .normal => K ρ ds L | e => xit c Q k e ρ ds L
def X (c : Cx) (k : List KI) (Q : Po) : Ko := xit c Q k .normal
section
variable {c : Cx} {k : List KI} {Q : Po} {ρ : Env} {ds : Ds} {L : List Ent}
theorem X.nil (h : Q .normal ρ ds L) : X c [] Q ρ ds L := h
theorem X.blk {id : Nat} (h : X c k Q ρ ds L) : X c (.blk id :: k) Q ρ ds L := h
theorem X.scp (h : X c k Q ρ ds L) : X c (.scp :: k) Q ρ ds L := h
theorem X.hyp {K : Ko} (h : K ρ ds L) : X c (.hyp K :: k) Q ρ ds L := h
theorem X.skip (h : X c k Q ρ ds L) : X c (.code .skip :: k) Q ρ ds L := fun w hw => wpIn_skip ⟨ρ, ds, L, rfl, hw, h⟩
theorem X.label {l : Nat} (h : X c k Q ρ ds L) : X c (.code (.label l) :: k) Q ρ ds L := fun w hw => wpIn_label ⟨ρ, ds, L, rfl, hw, h⟩
theorem X.seq {x y : Code} (h : X c (.code x :: .code y :: k) Q ρ ds L) : X c (.code (.seq x y) :: k) Q ρ ds L := by
  intro w hw
  refine wpIn_seq (wpIn_mono (h w hw) ?_)
  rintro e a w' ⟨ρ', ds', L', rfl, hst, hq⟩
  cases e with
  | normal => exact hq w' hst
  | _ => exact ⟨ρ', ds', L', rfl, hst, hq⟩
theorem X.block {id : Nat} {x : Code} (h : X c (.code x :: .blk id :: k) Q ρ ds L) : X c (.code (.block id x) :: k) Q ρ ds L := by
  intro w hw
  refine wpIn_block (wpIn_mono (h w hw) ?_)
  rintro e a w' ⟨ρ', ds', L', rfl, hst, hq⟩
  cases e with
  | exit id' =>
    simp only [xit] at hq
    simp only [Exit.inBlock]
    by_cases hid : id' = id
    · rw [if_pos hid] at hq ⊢; exact ⟨ρ', ds', L', rfl, hst, hq⟩
    · rw [if_neg hid] at hq ⊢; exact ⟨ρ', ds', L', rfl, hst, hq⟩
  | _ => exact ⟨ρ', ds', L', rfl, hst, hq⟩
theorem X.cond {o : Operand} {x y : Code} {b : Bool} (hb : evE c.n ρ o = .bool b) (h : X c (.code (if b then x else y) :: k) Q ρ ds L) : X c (.code (.cond o x y) :: k) Q ρ ds L :=
  fun w hw => wpIn_cond (by rw [act_eval]; exact hb) (h w hw)
theorem X.cond_t {o : Operand} {x y : Code} (hb : evE c.n ρ o = .bool true) (h : X c (.code x :: k) Q ρ ds L) : X c (.code (.cond o x y) :: k) Q ρ ds L := X.cond hb h
theorem X.cond_f {o : Operand} {x y : Code} (hb : evE c.n ρ o = .bool false) (h : X c (.code y :: k) Q ρ ds L) : X c (.code (.cond o x y) :: k) Q ρ ds L := X.cond hb h
theorem X.cond_s {o : Operand} {x y : Code} {p : Prop} [Decidable p] (hb : evE c.n ρ o = .bool (decide p)) (h1 : p → X c (.code x :: k) Q ρ ds L) (h2 : ¬ p → X c (.code y :: k) Q ρ ds L) : X c (.code (.cond o x y) :: k) Q ρ ds L := by
  by_cases hp : p
  · exact X.cond_t (by rw [hb]; simp [hp]) (h1 hp)
  · exact X.cond_f (by rw [hb]; simp [hp]) (h2 hp)
theorem xit_ret (c : Cx) (Q : Po) : ∀ k, xit c Q k .ret = Q .ret
  | [] => rfl
  | .code _ :: k => by funext ρ ds L; simp only [xit]; rw [xit_ret c Q k]
  | .blk _ :: k => by funext ρ ds L; simp only [xit]; rw [xit_ret c Q k]
  | .scp :: k => by funext ρ ds L; simp only [xit]; rw [xit_ret c Q k]
  | .hyp _ :: k => by funext ρ ds L; simp only [xit]; rw [xit_ret c Q k]
theorem X.ret (h : Q .ret ρ ds L) : X c (.code .ret :: k) Q ρ ds L := fun w hw => wpIn_ret ⟨ρ, ds, L, rfl, hw, by rw [xit_ret]; exact h⟩
def exitK : Nat → List KI → Option (List KI)
  | _, [] => none
  | id, .blk id' :: k => cond (Nat.beq id' id) (some k) (exitK id k)
  | id, .code _ :: k => exitK id k
  | id, .scp :: k => exitK id k
  | id, .hyp _ :: k => exitK id k
theorem xit_exit (c : Cx) (Q : Po) (id : Nat) : ∀ k, xit c Q k (.exit id) = (match exitK id k with | some k' => X c k' Q | none => Q (.exit id))
  | [] => rfl
  | .code _ :: k => by funext ρ ds L; simp only [xit, exitK]; rw [xit_exit c Q id k]
  | .blk id' :: k => by
    funext ρ ds L
    simp only [xit, exitK]
    by_cases h : id = id'
    · subst h; simp [X]
    · rw [if_neg h, beq_ne (Ne.symm h), xit_exit c Q id k]; rfl
  | .scp :: k => by funext ρ ds L; simp only [xit, exitK]; rw [xit_exit c Q id k]
  | .hyp _ :: k => by funext ρ ds L; simp only [xit, exitK]; rw [xit_exit c Q id k]
theorem X.exit {id : Nat} {k' : List KI} (hk : exitK id k = some k') (h : X c k' Q ρ ds L) : X c (.code (.exit id) :: k) Q ρ ds L :=
  fun w hw => wpIn_exit ⟨ρ, ds, L, rfl, hw, by rw [xit_exit, hk]; exact h⟩
theorem X.exit_out {id : Nat} (hk : exitK id k = none) (h : Q (.exit id) ρ ds L) : X c (.code (.exit id) :: k) Q ρ ds L :=
  fun w hw => wpIn_exit ⟨ρ, ds, L, rfl, hw, by rw [xit_exit, hk]; exact h⟩
theorem X.scope {x : Code} (hr : c.rd = none) (h : X c (.code x :: .scp :: k) Q ρ ds L) : X c (.code (.scope x) :: k) Q ρ ds L := by
  intro w hw
  have h1 := h w hw
  rw [hr, FR_none, wpIn_wide] at h1 ⊢
  refine wp_scope_straight (wp_mono h1 ?_)
  rintro e a w' ⟨ρ', ds', L', rfl, hst, hq⟩
  cases e with
  | goto l => exact hq
  | _ => exact ⟨ρ', ds', L', rfl, hst, hq⟩
theorem X.drop {x : Code} {L' : List Ent} (hs : L'.Sublist L) (h : X c (.code x :: k) Q ρ ds L') : X c (.code x :: k) Q ρ ds L := fun w hw => h w (hw.sub hs)
theorem X.cut {x : Code} (I : Ko) (h1 : X c (.code x :: .hyp I :: k) Q ρ ds L) (h2 : ∀ ρ ds L, I ρ ds L → X c k Q ρ ds L) : X c (.code x :: k) Q ρ ds L :=
  W.mono (Q := xit c Q (.hyp I :: k)) h1 fun e ρ' ds' L' hq => by
    cases e with
    | normal => exact h2 _ _ _ hq
    | _ => exact hq
theorem X.loop {γ : Type} {x : Code} (I : γ → Env → List Ent → Prop) (μ : γ → Nat) (g0 : γ) (h0 : ∃ L0, L0.Sublist L ∧ I g0 ρ L0)
    (hr : ∀ g ρ L, I g ρ L → X c (.code x :: .hyp (fun ρ' ds' L' => ds' = ds ∧ ∃ g', μ g' < μ g ∧ ∃ L'', L''.Sublist L' ∧ I g' ρ' L'') :: k) Q ρ ds L) : X c (.code (.loop x) :: k) Q ρ ds L := by
  intro w hw b kk cs hro hb hroom
  have key : ∀ m g ρ L w, μ g = m → I g ρ L → St c.w0 c.S w L →
      ∃ e a' w', lift c (xit c Q k) e a' w' ∧ ArrivesIn (Machine.fenced c.P (FR c.rd)) c.P (lone (b.atR (act c.n ρ ds) (.code x :: .inLoop x :: kk)) cs w) b kk cs e a' w' := by
    intro m
    induction m using Nat.strongRecOn with
    | _ m ih =>
      intro g ρ L w hm hI hst
      obtain ⟨e, a₁, w₁, hq, harr⟩ := hr g ρ L hI w hst b (.inLoop x :: kk) cs hro hb hroom
      obtain ⟨ρ1, ds1, L1, rfl, hst1, hq⟩ := hq
      cases e with
      | normal =>
        obtain ⟨rfl, g', hlt, L'', hsub, hI'⟩ := hq
        obtain ⟨e₂, a₂, w₂, hq₂, harr₂⟩ := ih (μ g') (hm ▸ hlt) g' ρ1 L'' w₁ rfl hI' (hst1.sub hsub)
        exact ⟨e₂, a₂, w₂, hq₂, .of_steps (StepsIn.trans harr (.one (fenced_calm hb hroom rfl) stepR_inLoop)) harr₂⟩
      | exit id => exact ⟨_, _, w₁, ⟨ρ1, ds1, L1, rfl, hst1, hq⟩, .pass (x := .inLoop x) rfl (fun _ _ => .inl (by simp)) harr⟩
      | goto l => exact ⟨_, _, w₁, ⟨ρ1, ds1, L1, rfl, hst1, hq⟩, .pass (x := .inLoop x) rfl (fun _ _ => .inl (by simp)) harr⟩
      | ret => exact ⟨_, _, w₁, ⟨ρ1, ds1, L1, rfl, hst1, hq⟩, .pass (x := .inLoop x) rfl (fun _ _ => .inl (by simp)) harr⟩
      | panic ch => exact ⟨_, _, w₁, ⟨ρ1, ds1, L1, rfl, hst1, hq⟩, .pass (x := .inLoop x) rfl (fun _ _ => .inl (by simp)) harr⟩
      | outgrown => exact ⟨_, _, w₁, ⟨ρ1, ds1, L1, rfl, hst1, hq⟩, .pass (x := .inLoop x) rfl (fun _ _ => .inl (by simp)) harr⟩
  obtain ⟨L0, hs0, h0⟩ := h0
  obtain ⟨e, a', w', hq, harr⟩ := key _ g0 ρ L0 w rfl h0 (hw.sub hs0)
  exact ⟨e, a', w', hq, .of_steps (.one (fenced_calm hb hroom rfl) stepR_loop) harr⟩
end
def nrm (K : Ko) (Qp : Po) : Po := fun e => match e with | .normal => K | e => Qp e
def RL (c : Cx) (ol l : List Oper) (K : Ko) (Qp : Po) (ρ : Env) (ds : Ds) (L : List Ent) : Prop :=
  match c.q with
  | false => ∀ w, St c.w0 c.S w L → wpListIn (FR c.rd) 0 c.P ol.toArray (lift c (nrm K Qp)) l (act c.n ρ ds) w
  | true => wpQuiet c.P ol.toArray (fun w => St c.w0 c.S w L) (fun a => ∃ ρ', a = act c.n ρ' ds ∧ K ρ' ds L) l (act c.n ρ ds)
theorem RL_f {c : Cx} (hq : c.q = false) (ol l : List Oper) (K : Ko) (Qp : Po) (ρ : Env) (ds : Ds) (L : List Ent) : RL c ol l K Qp ρ ds L = ∀ w, St c.w0 c.S w L → wpListIn (FR c.rd) 0 c.P ol.toArray (lift c (nrm K Qp)) l (act c.n ρ ds) w := by
  unfold RL; rw [hq]
theorem RL_t {c : Cx} (hq : c.q = true) (ol l : List Oper) (K : Ko) (Qp : Po) (ρ : Env) (ds : Ds) (L : List Ent) : RL c ol l K Qp ρ ds L = wpQuiet c.P ol.toArray (fun w => St c.w0 c.S w L) (fun a => ∃ ρ', a = act c.n ρ' ds ∧ K ρ' ds L) l (act c.n ρ ds) := by
  unfold RL; rw [hq]
def notDefer : Op → Bool
  | .defer _ => false
  | _ => true
section
variable {c : Cx} {k : List KI} {Q Qp : Po} {K : Ko} {ρ : Env} {ds : Ds} {L : List Ent} {ol rest : List Oper} {o : Oper}
theorem nrm_xit (c : Cx) (Q : Po) (k : List KI) : nrm (X c k Q) (xit c Q k) = xit c Q k := by funext e; cases e <;> rfl
theorem X.region {id : Nat} {l : List Oper} (hq : c.q = false) (h : RL c l l (X c k Q) (xit c Q k) ρ ds L) : X c (.code (.region id l.toArray false) :: k) Q ρ ds L := by
  intro w hw
  rw [RL_f hq] at h
  have h1 := h w hw
  rw [nrm_xit] at h1
  exact wpIn_region_lit h1
theorem X.draw {P : Program} {n : Nat} {w0 : World} {S : List Nat} {id : Nat} {l : List Oper} (hm : P.follows .mixedOrders = true) (hB : Region.lexB .any l.toArray = true)
    (h : RL ⟨P, none, n, w0, S, true⟩ l l (X ⟨P, none, n, w0, S, false⟩ k Q) (xit ⟨P, none, n, w0, S, false⟩ Q k) ρ ds L) : X ⟨P, none, n, w0, S, false⟩ (.code (.region id l.toArray true) :: k) Q ρ ds L := by
  intro w hw
  rw [RL_t rfl] at h
  show (Code.region id l.toArray true).wpIn (FR none) 0 P _ _ w
  rw [FR_none, wpIn_wide]
  refine wp_region_quiet (C := fun w => St w0 S w L) hm hB (hw.drawn _) ?_
  have mono : ∀ (l' : List Oper) (a : Act) (K1 K2 : Act → Prop), (∀ a, K1 a → K2 a) → wpQuiet P l.toArray (fun w => St w0 S w L) K1 l' a → wpQuiet P l.toArray (fun w => St w0 S w L) K2 l' a := by
    intro l'
    induction l' with
    | nil => intro a K1 K2 hk h; exact hk _ h
    | cons o rest ih =>
      intro a K1 K2 hk h
      simp only [wpQuiet] at h ⊢
      split
      · rename_i hw; rw [if_pos hw] at h; exact Oper.quiet_mono (fun a ha => ih a K1 K2 hk ha) h
      · rename_i hw; rw [if_neg hw] at h; exact ih _ K1 K2 hk h
  refine mono _ _ _ _ ?_ (by simpa using h)
  rintro a ⟨ρ', rfl, hK⟩ w' hw'
  exact ⟨ρ', ds, L, rfl, hw', hK⟩
theorem RL.nil (h : K ρ ds L) : RL c ol [] K Qp ρ ds L := by
  cases hq : c.q with
  | false => rw [RL_f hq]; exact fun w hw => ⟨ρ, ds, L, rfl, hw, h⟩
  | true => rw [RL_t hq]; exact ⟨ρ, rfl, h⟩
theorem semAt_nd {rd : Option Nat} {f : Operand → Value} (o : Oper) (hd : notDefer o.op = true) : o.semAt rd f = execOp f o := Oper.semAt_eq rd f o (fun c hc => by rw [hc] at hd; cases hd)
theorem RL.step (hq : c.q = false) (hw : wantE c.n ol ρ o = true) (hd : notDefer o.op = true)
    (h : ∀ w, St c.w0 c.S w L → ∃ v w' L', ((execOp (evE c.n ρ) o).run c.P w = .ok (.value v) w' ∨ ((execOp (evE c.n ρ) o).run c.P w = .ok .skip w' ∧ v = undef)) ∧ St c.w0 c.S w' L' ∧ RL c ol rest K Qp (updO ρ o.dst v) ds L') :
    RL c ol (o :: rest) K Qp ρ ds L := by
  rw [RL_f hq]
  intro w hst
  obtain ⟨v, w', L', hr, hst', hrest⟩ := h w hst
  rw [RL_f hq] at hrest
  simp only [wpListIn]
  rw [want_act, hw, if_pos rfl]
  refine ⟨fun f _ => FR_fn _ _, ?_⟩
  rw [semAt_nd o hd, act_eval]
  have h2 := hrest w' hst'
  rcases hr with hr | ⟨hr, rfl⟩
  · rw [hr]; simp only [Oper.uponIn]; rw [act_put]; exact h2
  · rw [hr]; simp only [Oper.uponIn]; rw [act_put]; exact h2
theorem RL.read {v : Value} (hw : wantE c.n ol ρ o = true) (hd : notDefer o.op = true) (h : ∀ w, St c.w0 c.S w L → (execOp (evE c.n ρ) o).run c.P w = .ok (.value v) w) (hr : RL c ol rest K Qp (updO ρ o.dst v) ds L) :
    RL c ol (o :: rest) K Qp ρ ds L := by
  cases hq : c.q with
  | false => exact RL.step hq hw hd fun w hst => ⟨v, w, L, .inl (h w hst), hst, hr⟩
  | true =>
    rw [RL_t hq] at hr ⊢
    simp only [wpQuiet]
    rw [want_act, hw, if_pos rfl]
    refine ⟨v, fun w hst => ?_, ?_⟩
    · unfold Oper.quietAt
      rw [act_eval, h w hst]
      exact ⟨rfl, rfl⟩
    · rw [act_put]; exact hr
theorem RL.pure {v : Value} (hw : wantE c.n ol ρ o = true) (hd : notDefer o.op = true) (h : ∀ w, (execOp (evE c.n ρ) o).run c.P w = .ok (.value v) w) (hr : RL c ol rest K Qp (updO ρ o.dst v) ds L) :
    RL c ol (o :: rest) K Qp ρ ds L := RL.read hw hd (fun w _ => h w) hr
theorem RL.skip (hw : wantE c.n ol ρ o = false) (hr : RL c ol rest K Qp (updO ρ o.dst undef) ds L) : RL c ol (o :: rest) K Qp ρ ds L := by
  cases hq : c.q with
  | false =>
    rw [RL_f hq] at hr ⊢
    intro w hst
    simp only [wpListIn]
    rw [want_act, hw, if_neg (by simp)]
    refine ⟨fun f _ => FR_fn _ _, ?_⟩
    rw [act_put]
    exact hr w hst
  | true =>
    rw [RL_t hq] at hr ⊢
    simp only [wpQuiet]
    rw [want_act, hw, if_neg (by simp), act_put]
    exact hr
theorem RL.enter {f : FuncId} {args : Array Value} (hq : c.q = false) (hw : wantE c.n ol ρ o = true) (hd : notDefer o.op = true) (hr : ∀ w, (execOp (evE c.n ρ) o).run c.P w = .ok (.enter f args) w)
    (h : ∀ w, St c.w0 c.S w L → CallsIn (FR none) 0 c.P f args w fun e w' => ∃ L', St c.w0 c.S w' L' ∧
      match e with | .returned v => RL c ol rest K Qp (updO ρ o.dst v) ds L' | .panicked ch => Qp (.panic ch) ρ ds L' | .outgrown => False) :
    RL c ol (o :: rest) K Qp ρ ds L := by
  rw [RL_f hq]
  intro w hst
  simp only [wpListIn]
  rw [want_act, hw, if_pos rfl]
  refine ⟨fun f _ => FR_fn _ _, ?_⟩
  rw [semAt_nd o hd, act_eval, hr w]
  refine ⟨FR_depth _, ?_⟩
  simp only [RL_f hq] at h
  have h1 : CallsIn (FR c.rd) 0 c.P f args w fun e w' => ∃ L', St c.w0 c.S w' L' ∧
      match e with | .returned v => ∀ w, St c.w0 c.S w L' → wpListIn (FR c.rd) 0 c.P ol.toArray (lift c (nrm K Qp)) rest (act c.n (updO ρ o.dst v) ds) w | .panicked ch => Qp (.panic ch) ρ ds L' | .outgrown => False := h w hst
  refine h1.mono ?_
  rintro e w' ⟨L', hst', hq⟩
  cases e with
  | returned v => show wpListIn _ _ _ _ _ rest ((act c.n ρ ds).put o.dst v) w'; rw [act_put]; exact hq w' hst'
  | panicked ch => exact ⟨ρ, ds, L', rfl, hst', hq⟩
  | outgrown => exact hq.elim
theorem RL.round {l fn : Nat} {tmps : Array Value} {assign body : Code} (hq : c.q = false) (hw : wantE c.n ol ρ o = true) (hd : notDefer o.op = true)
    (h : ∀ w, St c.w0 c.S w L → ∃ l fn tmps assign body, (execOp (evE c.n ρ) o).run c.P w = .ok (.round l fn tmps assign body) w ∧ RoundIn (FR none) 0 c.P l fn tmps assign body w fun e w' => ∃ v L', e = .returned v ∧ St c.w0 c.S w' L' ∧ RL c ol rest K Qp (updO ρ o.dst v) ds L') :
    RL c ol (o :: rest) K Qp ρ ds L := by
  rw [RL_f hq]
  intro w hst
  obtain ⟨l, fn, tmps, assign, body, hr, hR⟩ := h w hst
  simp only [wpListIn]
  rw [want_act, hw, if_pos rfl]
  refine ⟨fun f _ => FR_fn _ _, ?_⟩
  rw [semAt_nd o hd, act_eval, hr]
  refine ⟨FR_depth _, ?_⟩
  have h1 : RoundIn (FR c.rd) 0 c.P l fn tmps assign body w fun e w' => ∃ v L', e = .returned v ∧ St c.w0 c.S w' L' ∧ RL c ol rest K Qp (updO ρ o.dst v) ds L' := hR
  simp only [RL_f hq] at h1
  refine h1.mono ?_
  rintro e w' ⟨v, L', rfl, hst', hq⟩
  show wpListIn _ _ _ _ _ rest ((act c.n ρ ds).put o.dst v) w'
  rw [act_put]; exact hq w' hst'
end
def withV (v : Value) (k : Value → Prop) : Prop :=
  match v with
  | .bool b => k (.bool b)
  | .int kk n => k (.int kk n)
  | .float kk n => k (.float kk n)
  | .complex kk a b => k (.complex kk a b)
  | .string s => k (.string s)
  | .pointer a => k (.pointer a)
  | .slice a n c => k (.slice a n c)
  | .map r => k (.map r)
  | .chan r => k (.chan r)
  | .func f a b => k (.func f a b)
  | .nilFunc => k .nilFunc
  | .iface t x => k (.iface t x)
  | .nilIface => k .nilIface
  | .agg cs => k (.agg cs)
  | .tuple vs => k (.tuple vs)
theorem withV_eq (v : Value) (k : Value → Prop) : withV v k = k v := by cases v <;> rfl
def Ctr (P : Program) (f : FuncId) (args : List Value) (w : World) (Lp : List Ent) (R : Value → List Ent → Prop) : Prop :=
  CallsIn (FR none) 0 P f args.toArray w fun e w' => ∃ v L', e = .returned v ∧ St w (keys Lp) w' L' ∧ R v L'
theorem Ctr.mono {P : Program} {f : FuncId} {args : List Value} {w : World} {Lp : List Ent} {R R' : Value → List Ent → Prop} (h : Ctr P f args w Lp R) (hr : ∀ v L, R v L → R' v L) : Ctr P f args w Lp R' :=
  CallsIn.mono h fun _ _ ⟨v, L', h1, h2, h3⟩ => ⟨v, L', h1, h2, hr _ _ h3⟩
def argsE (n : Nat) (ρ : Env) (xs : Array Operand) : List Value := xs.toList.map (evE n ρ)
def RetQ (c : Cx) (fn : Func) (R : Value → List Ent → Prop) : Po := fun e ρ ds L =>
  match e with
  | .normal | .ret => ∀ w, St c.w0 c.S w L → LeavesInM (FR none) 0 c.P fn (act c.n ρ ds).tmps (fun e w' => ∃ v L', e = .returned v ∧ St c.w0 c.S w' L' ∧ R v L') ds .returning w
  | .panic ch => ∀ w, St c.w0 c.S w L → LeavesInM (FR none) 0 c.P fn (act c.n ρ ds).tmps (fun e w' => ∃ v L', e = .returned v ∧ St c.w0 c.S w' L' ∧ R v L') ds (.panicking ch) w
  | _ => False
theorem Ctr.intro {P : Program} {f : FuncId} {fn : Func} {x : Code} {args : List Value} {w : World} {Lp : List Ent} {R : Value → List Ent → Prop} {n : Nat} (hf : P.funcs[f]? = some fn) (hb : fn.body = some x)
    (hn : fn.ntmps = n) (ha : args.length ≤ n) (hown : ∀ p ∈ Lp, w.heap[p.1]? = some p.2) (hnd : (keys Lp).Nodup) (h : X ⟨P, none, n, w, keys Lp, false⟩ [.code x] (RetQ ⟨P, none, n, w, keys Lp, false⟩ fn R) (envOf args) [] Lp) : Ctr P f args w Lp R := by
  refine callsIn_of_wp_marks (F := FR none) (n := 0) hf hb trivial ?_ rfl
  rw [hn, act_init, Nat.max_eq_left ha]
  refine wpIn_mono (h w (St.init hown hnd)) ?_
  rintro e a w' ⟨ρ, ds, L, rfl, hst, hq⟩
  cases e with
  | normal => exact hq w' hst
  | ret => exact hq w' hst
  | panic ch => exact hq w' hst
  | exit _ => exact hq.elim
  | goto _ => exact hq.elim
  | outgrown => exact hq.elim
theorem Ctr.intro0 {P : Program} {f : FuncId} {fn : Func} {x : Code} {args : List Value} {w : World} {R : Value → List Ent → Prop} {n : Nat} (hf : P.funcs[f]? = some fn) (hb : fn.body = some x)
    (hn : fn.ntmps = n) (ha : args.length ≤ n) (h : X ⟨P, none, n, w, [], false⟩ [.code x] (RetQ ⟨P, none, n, w, [], false⟩ fn R) (envOf args) [] []) : Ctr P f args w [] R :=
  Ctr.intro hf hb hn ha (fun _ h => by cases h) List.nodup_nil h
theorem Ctr.calls {P : Program} {f : FuncId} {args : List Value} {w : World} {R : Value → List Ent → Prop} (h : Ctr P f args w [] R) :
    Calls P f args.toArray w fun e w' => ∃ v L', e = .returned v ∧ St w [] w' L' ∧ R v L' := callsIn_wide.1 h
section
variable {c : Cx} {fn : Func} {R : Value → List Ent → Prop} {ρ : Env} {L : List Ent}
theorem ret_of {v : Value} (hv : ∀ w, St c.w0 c.S w L → (results fn (act c.n ρ []).tmps).run c.P w = .ok v w) (h : R v L) : RetQ c fn R .ret ρ [] L :=
  fun w hw => ⟨v, hv w hw, v, L, rfl, hw, h⟩
theorem ret_of_n {v : Value} (hv : ∀ w, St c.w0 c.S w L → (results fn (act c.n ρ []).tmps).run c.P w = .ok v w) (h : R v L) : RetQ c fn R .normal ρ [] L :=
  fun w hw => ⟨v, hv w hw, v, L, rfl, hw, h⟩
theorem res0 (h : fn.results = #[]) (P : Program) (a : Array Value) (w : World) : (results fn a).run P w = .ok (.tuple #[]) w := by simp [results, h]
theorem res1 {t : Nat} (h : fn.results = #[.tmp t]) (P : Program) (n : Nat) (ρ : Env) (ds : Ds) (w : World) : (results fn (act n ρ ds).tmps).run P w = .ok (evE n ρ (.tmp t)) w := by
  rw [results_tmp h]; rw [act_get]; rfl
theorem ret0 (hr : fn.results = #[]) (h : R (.tuple #[]) L) : RetQ c fn R .ret ρ [] L := ret_of (fun w _ => res0 hr c.P _ w) h
theorem end0 (hr : fn.results = #[]) (h : R (.tuple #[]) L) : RetQ c fn R .normal ρ [] L := ret_of_n (fun w _ => res0 hr c.P _ w) h
theorem ret1 {t : Nat} (hr : fn.results = #[.tmp t]) (h : withV (evE c.n ρ (.tmp t)) fun v => R v L) : RetQ c fn R .ret ρ [] L := ret_of (fun w _ => by rw [res1 hr]) (by rw [withV_eq] at h; exact h)
end
end Go.Proofs.YtpcdcemcjbeajaaGreatDoor
end
section
set_option linter.unusedVariables false
set_option linter.unusedSimpArgs false
namespace Go.Proofs.YtpcdcemcjbeajaaGreatDoor
open Go.RowKit
abbrev cel (t : TypeId) (l : List Value) : Obj := .cells l.toArray t (0, 0)
class HasE (b : Nat) (o : outParam Obj) (L : List Ent) : Prop where
  out : (b, o) ∈ L
instance HasE.head (b : Nat) (o : Obj) (L : List Ent) : HasE b o ((b, o) :: L) := ⟨List.mem_cons_self⟩
instance HasE.tail (b : Nat) (o : Obj) (e : Ent) (L : List Ent) [h : HasE b o L] : HasE b o (e :: L) := ⟨List.mem_cons_of_mem _ h.out⟩
instance HasE.right (b : Nat) (o : Obj) (L1 L : List Ent) [h : HasE b o L] : HasE b o (L1 ++ L) := ⟨List.mem_append_right _ h.out⟩
class PutE (b : Nat) (f : List Value → List Value) (tt : outParam TypeId) (l : outParam (List Value)) (L : List Ent) (L' : outParam (List Ent)) : Prop where
  out : ∃ L1 L2, L = L1 ++ (b, cel tt l) :: L2 ∧ L' = L1 ++ (b, cel tt (f l)) :: L2
instance PutE.head (b : Nat) (f : List Value → List Value) (tt : TypeId) (l : List Value) (L : List Ent) : PutE b f tt l ((b, cel tt l) :: L) ((b, cel tt (f l)) :: L) := ⟨[], L, rfl, rfl⟩
instance PutE.tail (b : Nat) (f : List Value → List Value) (tt : TypeId) (l : List Value) (e : Ent) (L L' : List Ent) [h : PutE b f tt l L L'] : PutE b f tt l (e :: L) (e :: L') :=
  ⟨let ⟨L1, L2, h1, h2⟩ := h.out; ⟨e :: L1, L2, by rw [h1]; rfl, by rw [h2]; rfl⟩⟩
instance PutE.right (b : Nat) (f : List Value → List Value) (tt : TypeId) (l : List Value) (L0 L L' : List Ent) [h : PutE b f tt l L L'] : PutE b f tt l (L0 ++ L) (L0 ++ L') :=
  ⟨let ⟨L1, L2, h1, h2⟩ := h.out; ⟨L0 ++ L1, L2, by rw [h1]; simp, by rw [h2]; simp⟩⟩
def isAggD : TypeDesc → Bool
  | .struct _ | .array _ _ => true
  | _ => false
structure Scalar (P : Program) (t : TypeId) : Prop where
  agg : ∀ w, (isAgg t).run P w = .ok false w
  size : ∀ w, (sizeOf t).run P w = .ok 1 w
structure AggT (P : Program) (t : TypeId) (n : Nat) : Prop where
  agg : ∀ w, (isAgg t).run P w = .ok true w
  size : ∀ w, (sizeOf t).run P w = .ok n w
section
variable {P : Program} {t e : TypeId}
theorem size_of_info {n : Nat} (h : (P.info? t).map (·.size) = some n) (w : World) : (sizeOf t).run P w = .ok n w := by
  cases hi : P.info? t with
  | none => simp [hi] at h
  | some i => simp [sizeOf, typeInfo, hi] at h ⊢; exact h
theorem Scalar.mk' {d : TypeDesc} (hu : P.underlying t = some d) (hd : isAggD d = false) (hs : (P.info? t).map (·.size) = some 1) : Scalar P t :=
  ⟨fun w => by unfold isAgg; rw [Sem.run_bind, run_underlying hu w]; cases d <;> simp_all [isAggD], size_of_info hs⟩
theorem AggT.mk' {d : TypeDesc} {n : Nat} (hu : P.underlying t = some d) (hd : isAggD d = true) (hs : (P.info? t).map (·.size) = some n) : AggT P t n :=
  ⟨fun w => by unfold isAgg; rw [Sem.run_bind, run_underlying hu w]; cases d <;> simp_all [isAggD], size_of_info hs⟩
def ZeroT (P : Program) (t : TypeId) (l : List Value) : Prop := ∃ v : Value, v.cells = l.toArray ∧ ∀ w, (zeroValue t).run P w = .ok v w
theorem ZeroT.mk' {v : Value} {l : List Value} (h : (P.info? t).map (·.zero) = some (some v)) (hl : v.cells = l.toArray) : ZeroT P t l :=
  ⟨v, hl, fun w => by
    cases hi : P.info? t with
    | none => simp [hi] at h
    | some i => simp only [hi, Option.map_some, Option.some.injEq] at h; simp [zeroValue, typeInfo, hi, h]⟩
structure SlT (P : Program) (t : TypeId) (e : TypeId) (sz : Nat) : Prop where
  und : P.underlying t = some (.slice e)
  size : ∀ w, (sizeOf e).run P w = .ok sz w
def FldT (P : Program) (s : TypeId) (i : Nat) (off : Nat) : Prop := ∀ (a : Addr) w, (Instr.fieldAt s (.pointer (some a)) i).run P w = .ok (.pointer (some (a.add off))) w
theorem FldT.mk' {fs : Array Field} {i : Nat} {f : Field} {n off : Nat} (hu : P.underlying t = some (.struct fs)) (hf : fs[i]? = some f) (ho : f.offset = off) (hn : (P.info? f.type).map (·.size) = some n) (h0 : (n == 0) = false) : FldT P t i off := by
  subst ho
  intro a w
  have h0' : n ≠ 0 := by simpa using h0
  have hsz := size_of_info (P := P) hn w
  simp [Instr.fieldAt, Sem.run_bind, run_underlying hu, hf, Instr.sureAddr, fieldPlace, hsz, h0']
end
def CellsAt (w : World) (b off : Nat) (l : List Value) : Prop := ∀ j v, l[j]? = some v → w.cell? ⟨b, off + j, none⟩ = some v
theorem CellsAt.sub {w : World} {b off : Nat} {l : List Value} (h : CellsAt w b off l) (d n : Nat) : CellsAt w b (off + d) ((l.drop d).take n) := by
  intro j v hv
  have : l[d + j]? = some v := by
    rw [List.getElem?_take] at hv
    split at hv
    · rwa [List.getElem?_drop] at hv
    · cases hv
  rw [Nat.add_assoc]; exact h _ _ this
theorem cell_entry {w : World} {b : Nat} {cs : Array Value} {t : TypeId} {fr : Nat × Nat} (h : w.heap[b]? = some (.cells cs t fr)) (off : Nat) : w.cell? ⟨b, off, none⟩ = cs[off]? := by
  simp [World.cell?, h]
theorem St.cellO {w0 w : World} {S : List Nat} {L : List Ent} (h : St w0 S w L) {b : Nat} {t : TypeId} {l : List Value} {fr : Nat × Nat} (hm : (b, Obj.cells l.toArray t fr) ∈ L) (off : Nat) : w.cell? ⟨b, off, none⟩ = l[off]? := by
  rw [cell_entry (h.own _ hm)]; simp
theorem St.cellsO {w0 w : World} {S : List Nat} {L : List Ent} (h : St w0 S w L) {b : Nat} {t : TypeId} {l : List Value} {fr : Nat × Nat} (hm : (b, Obj.cells l.toArray t fr) ∈ L) (off : Nat) : CellsAt w b off (l.drop off) := by
  intro j v hv
  rw [h.cellO hm]; rwa [List.getElem?_drop] at hv
theorem St.cellI {w0 w : World} {S : List Nat} {L : List Ent} (h : St w0 S w L) {a : Addr} {v : Value} (hc : w0.cell? a = some v) (hS : a.block ∉ S) : w.cell? a = some v := by
  rw [World.cell?_of_block (w := w0) (h.keep a.block (World.block_lt_of_cell? _ _ hc) hS)]; exact hc
theorem St.cellsI {w0 w : World} {S : List Nat} {L : List Ent} (h : St w0 S w L) {b off : Nat} {l : List Value} (hc : CellsAt w0 b off l) (hS : b ∉ S) : CellsAt w b off l :=
  fun j v hv => h.cellI (hc j v hv) hS
theorem addr_add (b o n : Nat) : (⟨b, o, none⟩ : Addr).add n = ⟨b, o + n, none⟩ := by unfold Addr.add; split <;> simp_all
theorem run_loadA {P : Program} {t : TypeId} {n : Nat} {w : World} {b off : Nat} {l : List Value} (ha : AggT P t n) (hl : l.length = n) (hc : CellsAt w b off l) : (loadVar t ⟨b, off, none⟩).run P w = .ok (.agg l.toArray) w := by
  have h2 : (loadCells ⟨b, off, none⟩ l.length).run P w = .ok l.toArray w := run_loadCells_list (P := P) w ⟨b, off, none⟩ l (fun j v hv => by rw [addr_add]; exact hc j v hv)
  subst hl
  simp [loadVar, Sem.run_bind, ha.agg w, ha.size w, h2]
theorem run_loadS {P : Program} {t : TypeId} {w : World} {a : Addr} {v : Value} (ha : Scalar P t) (hc : w.cell? a = some v) : (loadVar t a).run P w = .ok v w := by
  simp [loadVar, Sem.run_bind, ha.agg w, run_load, hc]
section
variable {c : Cx} {Qp : Po} {K : Ko} {ρ : Env} {ds : Ds} {L : List Ent} {ol rest : List Oper}
variable {d : Option Nat} {ty : TypeId} {pos : String} {af : Array Edge} {g : Option (Nat × Bool)}
theorem RL.move {x : Operand} (hw : wantE c.n ol ρ ⟨d, .move x, ty, pos, af, g⟩ = true) (h : withV (evE c.n ρ x) fun v => RL c ol rest K Qp (updO ρ d v) ds L) : RL c ol (⟨d, .move x, ty, pos, af, g⟩ :: rest) K Qp ρ ds L :=
  RL.pure hw rfl (fun w => rfl) (by rw [withV_eq] at h; exact h)
theorem RL.assign {x : Operand} (hw : wantE c.n ol ρ ⟨d, .assign x, ty, pos, af, g⟩ = true) (h : withV (evE c.n ρ x) fun v => RL c ol rest K Qp (updO ρ d v) ds L) : RL c ol (⟨d, .assign x, ty, pos, af, g⟩ :: rest) K Qp ρ ds L :=
  RL.pure hw rfl (fun w => rfl) (by rw [withV_eq] at h; exact h)
theorem RL.pick {x y z : Operand} {b : Bool} (hw : wantE c.n ol ρ ⟨d, .pick x y z, ty, pos, af, g⟩ = true) (hb : evE c.n ρ x = .bool b) (h : withV (if b then evE c.n ρ y else evE c.n ρ z) fun v => RL c ol rest K Qp (updO ρ d v) ds L) : RL c ol (⟨d, .pick x y z, ty, pos, af, g⟩ :: rest) K Qp ρ ds L :=
  RL.pure (v := if b then evE c.n ρ y else evE c.n ρ z) hw rfl (fun w => by simp [execOp, hb, asBool]) (by rw [withV_eq] at h; exact h)
theorem RL.pick_t {x y z : Operand} (hw : wantE c.n ol ρ ⟨d, .pick x y z, ty, pos, af, g⟩ = true) (hb : evE c.n ρ x = .bool true) (h : withV (evE c.n ρ y) fun v => RL c ol rest K Qp (updO ρ d v) ds L) : RL c ol (⟨d, .pick x y z, ty, pos, af, g⟩ :: rest) K Qp ρ ds L := RL.pick hw hb h
theorem RL.pick_f {x y z : Operand} (hw : wantE c.n ol ρ ⟨d, .pick x y z, ty, pos, af, g⟩ = true) (hb : evE c.n ρ x = .bool false) (h : withV (evE c.n ρ z) fun v => RL c ol rest K Qp (updO ρ d v) ds L) : RL c ol (⟨d, .pick x y z, ty, pos, af, g⟩ :: rest) K Qp ρ ds L := RL.pick hw hb h
theorem run_bin_int (P : Program) (n : Nat) (ρ : Env) (op : BinOp) {t t' : TypeId} {x y : Operand} {k : IntKind} {a b : Int} (hx : evE n ρ x = .int k a) (hy : evE n ρ y = .int k b) (w : World) :
    (execOp (evE n ρ) ⟨d, .binOp op t x y t', ty, pos, af, g⟩).run P w = ((binOp op t (.int k a) (.int k b)).run P w).andThen fun v w' => .ok (.value v) w' := by
  have hg : ∀ (op : BinOp), (eqGuard op t x y (.int k a) (.int k b)).run P w = .ok () w := fun op => by cases op <;> rfl
  simp [execOp, hx, hy, Sem.run_bind, hg]
variable {t t' : TypeId} {x y : Operand} {k : IntKind} {a b : Int}
theorem RL.binI {op : BinOp} {v : Value} (hw : wantE c.n ol ρ ⟨d, .binOp op t x y t', ty, pos, af, g⟩ = true) (hx : evE c.n ρ x = .int k a) (hy : evE c.n ρ y = .int k b) (hv : ∀ w, (binOp op t (.int k a) (.int k b)).run c.P w = .ok v w)
    (h : RL c ol rest K Qp (updO ρ d v) ds L) : RL c ol (⟨d, .binOp op t x y t', ty, pos, af, g⟩ :: rest) K Qp ρ ds L :=
  RL.pure hw rfl (fun w => by rw [run_bin_int c.P c.n ρ op hx hy w, hv w]; rfl) h
theorem bin_add (P : Program) (t : TypeId) (k : IntKind) (a b : Int) (w : World) : (binOp .add t (.int k a) (.int k b)).run P w = .ok (.int k (k.wrap (a + b))) w := by simp [binOp, Op.intArith]
theorem bin_sub (P : Program) (t : TypeId) (k : IntKind) (a b : Int) (w : World) : (binOp .sub t (.int k a) (.int k b)).run P w = .ok (.int k (k.wrap (a - b))) w := by simp [binOp, Op.intArith]
theorem bin_mul (P : Program) (t : TypeId) (k : IntKind) (a b : Int) (w : World) : (binOp .mul t (.int k a) (.int k b)).run P w = .ok (.int k (k.wrap (a * b))) w := by simp [binOp, Op.intArith]
theorem bin_cmp (P : Program) (t : TypeId) (k : IntKind) (a b : Int) (w : World) :
    (binOp .eql t (.int k a) (.int k b)).run P w = .ok (.bool (decide (a = b))) w ∧ (binOp .neq t (.int k a) (.int k b)).run P w = .ok (.bool (decide (a ≠ b))) w ∧ (binOp .lss t (.int k a) (.int k b)).run P w = .ok (.bool (decide (a < b))) w ∧
    (binOp .leq t (.int k a) (.int k b)).run P w = .ok (.bool (decide (a ≤ b))) w ∧ (binOp .gtr t (.int k a) (.int k b)).run P w = .ok (.bool (decide (a > b))) w ∧ (binOp .geq t (.int k a) (.int k b)).run P w = .ok (.bool (decide (a ≥ b))) w := by
  refine ⟨?_, ?_, ?_, ?_, ?_, ?_⟩ <;> simp [binOp, Op.intCmp]
  · by_cases h : a = b <;> simp [h]
  · by_cases h : a = b <;> simp [h]
theorem bin_rem (P : Program) (t : TypeId) (k : IntKind) (a b : Int) (hb : b ≠ 0) (w : World) : (binOp .rem t (.int k a) (.int k b)).run P w = .ok (.int k (a.tmod b)) w := by simp [binOp, Op.intDiv, hb]
theorem wrap_i64 {n : Int} (h : -9223372036854775808 ≤ n ∧ n ≤ 9223372036854775807) : IntKind.i64.wrap n = n := IntWalk.i64_in _ (by simpa using h)
theorem RL.add {a b : Int} (hw : wantE c.n ol ρ ⟨d, .binOp .add t x y t', ty, pos, af, g⟩ = true) (hx : evE c.n ρ x = .int .i64 a) (hy : evE c.n ρ y = .int .i64 b) (hb : -9223372036854775808 ≤ a + b ∧ a + b ≤ 9223372036854775807) (h : RL c ol rest K Qp (updO ρ d (.int .i64 (a + b))) ds L) :
    RL c ol (⟨d, .binOp .add t x y t', ty, pos, af, g⟩ :: rest) K Qp ρ ds L := RL.binI hw hx hy (fun w => by rw [bin_add, wrap_i64 hb]) h
theorem RL.sub {a b : Int} (hw : wantE c.n ol ρ ⟨d, .binOp .sub t x y t', ty, pos, af, g⟩ = true) (hx : evE c.n ρ x = .int .i64 a) (hy : evE c.n ρ y = .int .i64 b) (hb : -9223372036854775808 ≤ a - b ∧ a - b ≤ 9223372036854775807) (h : RL c ol rest K Qp (updO ρ d (.int .i64 (a - b))) ds L) :
    RL c ol (⟨d, .binOp .sub t x y t', ty, pos, af, g⟩ :: rest) K Qp ρ ds L := RL.binI hw hx hy (fun w => by rw [bin_sub, wrap_i64 hb]) h
theorem RL.mul {a b : Int} (hw : wantE c.n ol ρ ⟨d, .binOp .mul t x y t', ty, pos, af, g⟩ = true) (hx : evE c.n ρ x = .int .i64 a) (hy : evE c.n ρ y = .int .i64 b) (hb : -9223372036854775808 ≤ a * b ∧ a * b ≤ 9223372036854775807) (h : RL c ol rest K Qp (updO ρ d (.int .i64 (a * b))) ds L) :
    RL c ol (⟨d, .binOp .mul t x y t', ty, pos, af, g⟩ :: rest) K Qp ρ ds L := RL.binI hw hx hy (fun w => by rw [bin_mul, wrap_i64 hb]) h
theorem RL.rem (hw : wantE c.n ol ρ ⟨d, .binOp .rem t x y t', ty, pos, af, g⟩ = true) (hx : evE c.n ρ x = .int k a) (hy : evE c.n ρ y = .int k b) (hb : b ≠ 0) (h : RL c ol rest K Qp (updO ρ d (.int k (a.tmod b))) ds L) :
    RL c ol (⟨d, .binOp .rem t x y t', ty, pos, af, g⟩ :: rest) K Qp ρ ds L := RL.binI hw hx hy (fun w => bin_rem _ _ _ _ _ hb _) h
def cmpP : BinOp → Int → Int → Prop
  | .eql, a, b => a = b
  | .neq, a, b => a ≠ b
  | .lss, a, b => a < b
  | .leq, a, b => a ≤ b
  | .gtr, a, b => a > b
  | .geq, a, b => a ≥ b
  | _, _, _ => False
def isCmp : BinOp → Bool
  | .eql | .neq | .lss | .leq | .gtr | .geq => true
  | _ => false
instance (op : BinOp) (a b : Int) : Decidable (cmpP op a b) := by cases op <;> unfold cmpP <;> infer_instance
theorem bin_cmpP {op : BinOp} (hc : isCmp op = true) (P : Program) (t : TypeId) (k : IntKind) (a b : Int) (w : World) : (binOp op t (.int k a) (.int k b)).run P w = .ok (.bool (decide (cmpP op a b))) w := by
  obtain ⟨h1, h2, h3, h4, h5, h6⟩ := bin_cmp P t k a b w
  cases op <;> first | (cases hc; done) | (simp only [cmpP]; first | exact h1 | exact h2 | exact h3 | exact h4 | exact h5 | exact h6)
theorem RL.cmp_t {op : BinOp} (hw : wantE c.n ol ρ ⟨d, .binOp op t x y t', ty, pos, af, g⟩ = true) (hc : isCmp op = true) (hx : evE c.n ρ x = .int k a) (hy : evE c.n ρ y = .int k b) (hp : cmpP op a b) (h : RL c ol rest K Qp (updO ρ d (.bool true)) ds L) :
    RL c ol (⟨d, .binOp op t x y t', ty, pos, af, g⟩ :: rest) K Qp ρ ds L := RL.binI hw hx hy (fun w => by rw [bin_cmpP hc, decide_eq_true hp]) h
theorem RL.cmp_f {op : BinOp} (hw : wantE c.n ol ρ ⟨d, .binOp op t x y t', ty, pos, af, g⟩ = true) (hc : isCmp op = true) (hx : evE c.n ρ x = .int k a) (hy : evE c.n ρ y = .int k b) (hp : ¬ cmpP op a b) (h : RL c ol rest K Qp (updO ρ d (.bool false)) ds L) :
    RL c ol (⟨d, .binOp op t x y t', ty, pos, af, g⟩ :: rest) K Qp ρ ds L := RL.binI hw hx hy (fun w => by rw [bin_cmpP hc, decide_eq_false hp]) h
theorem RL.cmp_s {op : BinOp} (hw : wantE c.n ol ρ ⟨d, .binOp op t x y t', ty, pos, af, g⟩ = true) (hc : isCmp op = true) (hx : evE c.n ρ x = .int k a) (hy : evE c.n ρ y = .int k b) (h1 : cmpP op a b → RL c ol rest K Qp (updO ρ d (.bool true)) ds L) (h2 : ¬ cmpP op a b → RL c ol rest K Qp (updO ρ d (.bool false)) ds L) :
    RL c ol (⟨d, .binOp op t x y t', ty, pos, af, g⟩ :: rest) K Qp ρ ds L := by
  by_cases hp : cmpP op a b
  · exact RL.cmp_t hw hc hx hy hp (h1 hp)
  · exact RL.cmp_f hw hc hx hy hp (h2 hp)
theorem RL.cmp_d {op : BinOp} (hw : wantE c.n ol ρ ⟨d, .binOp op t x y t', ty, pos, af, g⟩ = true) (hc : isCmp op = true) (hx : evE c.n ρ x = .int k a) (hy : evE c.n ρ y = .int k b) (h : RL c ol rest K Qp (updO ρ d (.bool (decide (cmpP op a b)))) ds L) :
    RL c ol (⟨d, .binOp op t x y t', ty, pos, af, g⟩ :: rest) K Qp ρ ds L := RL.binI hw hx hy (fun w => bin_cmpP hc ..) h
theorem RL.not {b : Bool} (hw : wantE c.n ol ρ ⟨d, .unOp .not t x, ty, pos, af, g⟩ = true) (hx : evE c.n ρ x = .bool b) (h : RL c ol rest K Qp (updO ρ d (.bool (!b))) ds L) : RL c ol (⟨d, .unOp .not t x, ty, pos, af, g⟩ :: rest) K Qp ρ ds L :=
  RL.pure hw rfl (fun w => by simp [execOp, hx, Op.unary]) h
theorem RL.nilCheck {ad : Addr} (hw : wantE c.n ol ρ ⟨d, .nilCheck x, ty, pos, af, g⟩ = true) (hx : evE c.n ρ x = .pointer (some ad)) (h : RL c ol rest K Qp (updO ρ d (.pointer (some ad))) ds L) : RL c ol (⟨d, .nilCheck x, ty, pos, af, g⟩ :: rest) K Qp ρ ds L :=
  RL.pure hw rfl (fun w => by simp [execOp, hx]) h
theorem RL.fieldAddr {s i off bb o : Nat} (hw : wantE c.n ol ρ ⟨d, .fieldAddr s x i, ty, pos, af, g⟩ = true) (hF : FldT c.P s i off) (hx : evE c.n ρ x = .pointer (some ⟨bb, o, none⟩)) (h : RL c ol rest K Qp (updO ρ d (.pointer (some ⟨bb, o + off, none⟩))) ds L) :
    RL c ol (⟨d, .fieldAddr s x i, ty, pos, af, g⟩ :: rest) K Qp ρ ds L :=
  RL.pure hw rfl (fun w => by simp only [execOp, hx]; rw [Sem.run_bind, hF]; simp [addr_add]) h
theorem RL.indexAddr {e sz n cp j bb o : Nat} {A : Option Addr} {i : Int} (hw : wantE c.n ol ρ ⟨d, .indexAddr t x y, ty, pos, af, g⟩ = true) (hT : SlT c.P t e sz) (hx : evE c.n ρ x = .slice A n cp) (hy : evE c.n ρ y = .int k i) (hA : A = some ⟨bb, o, none⟩) (hj : i = (j : Int)) (hn : j < n)
    (h : RL c ol rest K Qp (updO ρ d (.pointer (some ⟨bb, o + j * sz, none⟩))) ds L) : RL c ol (⟨d, .indexAddr t x y, ty, pos, af, g⟩ :: rest) K Qp ρ ds L :=
  RL.pure hw rfl (fun w => by
    subst hA hj
    simp [execOp, hx, hy, Instr.indexAt, asIntOf, Sem.run_bind, run_underlying hT.und, hT.size, hn, addr_add]) h
theorem RL.len {e sz n cp : Nat} {A : Option Addr} (hw : wantE c.n ol ρ ⟨d, .call ⟨.builtin .len, #[x], #[t]⟩, ty, pos, af, g⟩ = true) (hT : SlT c.P t e sz) (hx : evE c.n ρ x = .slice A n cp) (h : RL c ol rest K Qp (updO ρ d (.int .i64 (n : Int))) ds L) :
    RL c ol (⟨d, .call ⟨.builtin .len, #[x], #[t]⟩, ty, pos, af, g⟩ :: rest) K Qp ρ ds L :=
  RL.pure hw rfl (fun w => by simp [execOp, resolve, invoke, builtin, Builtin.len_, hx, Sem.run_bind, run_underlying hT.und, goInt]) h
theorem RL.extract {vs : Array Value} {v : Value} {i : Nat} (hw : wantE c.n ol ρ ⟨d, .extract x i, ty, pos, af, g⟩ = true) (hx : evE c.n ρ x = .tuple vs) (hv : vs[i]? = some v) (h : withV v fun v => RL c ol rest K Qp (updO ρ d v) ds L) : RL c ol (⟨d, .extract x i, ty, pos, af, g⟩ :: rest) K Qp ρ ds L :=
  RL.pure (v := v) hw rfl (fun w => by simp [execOp, hx, Instr.extract, hv]) (by rw [withV_eq] at h; exact h)
theorem RL.makeFunc {f : Fn} {fi ca : Array Operand} {va : List Value} (hw : wantE c.n ol ρ ⟨d, .makeFunc f fi ca, ty, pos, af, g⟩ = true) (hf : fi = #[]) (hc : argsE c.n ρ ca = va) (h : RL c ol rest K Qp (updO ρ d (.func f #[] va.toArray)) ds L) : RL c ol (⟨d, .makeFunc f fi ca, ty, pos, af, g⟩ :: rest) K Qp ρ ds L :=
  RL.pure hw rfl (fun w => by subst hf hc; simp [execOp, Instr.makeFunc, argsE, ← Array.toList_map]) h
theorem RL.conv {kd : IntKind} (hw : wantE c.n ol ρ ⟨d, .convert t t' x, ty, pos, af, g⟩ = true) (hs : c.P.underlying t = some (.int k)) (hd : c.P.underlying t' = some (.int kd)) (hx : evE c.n ρ x = .int k a) (h : RL c ol rest K Qp (updO ρ d (.int kd (kd.wrap a))) ds L) :
    RL c ol (⟨d, .convert t t' x, ty, pos, af, g⟩ :: rest) K Qp ρ ds L :=
  RL.pure hw rfl (fun w => by simp [execOp, hx, convert, Sem.run_bind, run_underlying hs, run_underlying hd, Conv.intToInt]) h
theorem RL.loadG {v : Value} {ad : Addr} (hw : wantE c.n ol ρ ⟨d, .load t x, ty, pos, af, g⟩ = true) (hx : evE c.n ρ x = .pointer (some ad)) (hl : ∀ w, St c.w0 c.S w L → (loadVar t ad).run c.P w = .ok v w) (h : RL c ol rest K Qp (updO ρ d v) ds L) :
    RL c ol (⟨d, .load t x, ty, pos, af, g⟩ :: rest) K Qp ρ ds L :=
  RL.read hw rfl (fun w hst => by simp [execOp, hx, Instr.loadAt, Instr.sureAddr, Sem.run_bind, hl w hst]) h
theorem RL.loadO {bb off tt : Nat} {l : List Value} {fr : Nat × Nat} {v : Value} (hw : wantE c.n ol ρ ⟨d, .load t x, ty, pos, af, g⟩ = true) (hT : Scalar c.P t) (hx : evE c.n ρ x = .pointer (some ⟨bb, off, none⟩)) [hm : HasE bb (.cells l.toArray tt fr) L] (hv : l[off]? = some v)
    (h : withV v fun v => RL c ol rest K Qp (updO ρ d v) ds L) : RL c ol (⟨d, .load t x, ty, pos, af, g⟩ :: rest) K Qp ρ ds L :=
  RL.loadG hw hx (fun w hst => run_loadS hT (by rw [hst.cellO hm.out, hv])) (by rw [withV_eq] at h; exact h)
theorem RL.loadI {bb off : Nat} {v : Value} (hw : wantE c.n ol ρ ⟨d, .load t x, ty, pos, af, g⟩ = true) (hT : Scalar c.P t) (hx : evE c.n ρ x = .pointer (some ⟨bb, off, none⟩)) (hv : c.w0.cell? ⟨bb, off, none⟩ = some v) (hS : bb ∉ c.S)
    (h : withV v fun v => RL c ol rest K Qp (updO ρ d v) ds L) : RL c ol (⟨d, .load t x, ty, pos, af, g⟩ :: rest) K Qp ρ ds L :=
  RL.loadG hw hx (fun w hst => run_loadS hT (hst.cellI hv hS)) (by rw [withV_eq] at h; exact h)
theorem RL.newG {v : Value} {l : List Value} {op : Op} (hd : notDefer op = true) (hq : c.q = false) (hw : wantE c.n ol ρ ⟨d, op, ty, pos, af, g⟩ = true) (hr : ∀ w, (execOp (evE c.n ρ) ⟨d, op, ty, pos, af, g⟩).run c.P w = .ok (.value (.pointer (some ⟨w.heap.size, 0, none⟩))) (w.alloc (cel t l)))
    (h : ∀ bb, c.w0.heap.size ≤ bb → RL c ol rest K Qp (updO ρ d (.pointer (some ⟨bb, 0, none⟩))) ds ((bb, cel t l) :: L)) : RL c ol (⟨d, op, ty, pos, af, g⟩ :: rest) K Qp ρ ds L :=
  RL.step hq hw hd fun w hst => ⟨_, _, _, .inl (hr w), hst.alloc _, h _ hst.size⟩
theorem RL.alloc {l : List Value} (hq : c.q = false) (hw : wantE c.n ol ρ ⟨d, .alloc t, ty, pos, af, g⟩ = true) (hz : ZeroT c.P t l) (h : ∀ bb, c.w0.heap.size ≤ bb → RL c ol rest K Qp (updO ρ d (.pointer (some ⟨bb, 0, none⟩))) ds ((bb, cel t l) :: L)) :
    RL c ol (⟨d, .alloc t, ty, pos, af, g⟩ :: rest) K Qp ρ ds L := by
  obtain ⟨v, hv, hz⟩ := hz
  refine RL.newG (v := v) rfl hq hw (fun w => ?_) h
  simp [execOp, Instr.alloc, Sem.run_bind, hz, newVar, newRow, hv]
theorem RL.boxG {v : Value} {l : List Value} (hq : c.q = false) (hw : wantE c.n ol ρ ⟨d, .box t x, ty, pos, af, g⟩ = true) (hx : evE c.n ρ x = v) (hv : v.cells = l.toArray) (h : ∀ bb, c.w0.heap.size ≤ bb → RL c ol rest K Qp (updO ρ d (.pointer (some ⟨bb, 0, none⟩))) ds ((bb, cel t l) :: L)) :
    RL c ol (⟨d, .box t x, ty, pos, af, g⟩ :: rest) K Qp ρ ds L := by
  refine RL.newG (v := v) rfl hq hw (fun w => ?_) h
  simp [execOp, Instr.box, Sem.run_bind, newVar, newRow, hx, hv]
theorem RL.boxS {A : Option Addr} {m n : Nat} (hq : c.q = false) (hw : wantE c.n ol ρ ⟨d, .box t x, ty, pos, af, g⟩ = true) (hx : evE c.n ρ x = .slice A m n) (h : ∀ bb, c.w0.heap.size ≤ bb → RL c ol rest K Qp (updO ρ d (.pointer (some ⟨bb, 0, none⟩))) ds ((bb, cel t [.slice A m n]) :: L)) : RL c ol (⟨d, .box t x, ty, pos, af, g⟩ :: rest) K Qp ρ ds L := RL.boxG hq hw hx rfl h
theorem RL.fn {f : FuncId} {vals : List Value} {Lp Lr : List Ent} {R : Value → List Ent → Prop} {cal : Operand} {xs : Array Operand} {ts : Array TypeId} (hq : c.q = false) (hw : wantE c.n ol ρ ⟨d, .call ⟨.value cal, xs, ts⟩, ty, pos, af, g⟩ = true)
    (hf : evE c.n ρ cal = .func (.func f) #[] #[]) (he : ∀ args w, (callFunc f args).run c.P w = .ok (.enter f args) w) (hL : L.Perm (Lp ++ Lr)) (hc : ∀ w, St c.w0 c.S w (Lp ++ Lr) → Ctr c.P f vals w Lp R) (ha : argsE c.n ρ xs = vals)
    (h : ∀ v L', R v L' → withV v fun v => RL c ol rest K Qp (updO ρ d v) ds (L' ++ Lr)) : RL c ol (⟨d, .call ⟨.value cal, xs, ts⟩, ty, pos, af, g⟩ :: rest) K Qp ρ ds L := by
  refine RL.enter (f := f) (args := vals.toArray) hq hw rfl (fun w => ?_) (fun w hst => ?_)
  · subst ha
    simp [execOp, resolve, Deferred.ofValue, hf, invoke, Sem.run_bind, he, argsE, ← Array.toList_map]
  · have hst' := hst.perm hL.symm
    refine CallsIn.mono (hc w hst') ?_
    rintro e w' ⟨v, L', rfl, h2, h3⟩
    refine ⟨L' ++ Lr, hst'.comp h2, ?_⟩
    have := h v L' h3
    rw [withV_eq] at this
    exact this
theorem RL.fn0 {f : FuncId} {vals : List Value} {R : Value → List Ent → Prop} {cal : Operand} {xs : Array Operand} {ts : Array TypeId} (hq : c.q = false) (hw : wantE c.n ol ρ ⟨d, .call ⟨.value cal, xs, ts⟩, ty, pos, af, g⟩ = true)
    (hf : evE c.n ρ cal = .func (.func f) #[] #[]) (he : ∀ args w, (callFunc f args).run c.P w = .ok (.enter f args) w) (hc : ∀ w, St c.w0 c.S w L → Ctr c.P f vals w [] R) (ha : argsE c.n ρ xs = vals)
    (h : ∀ v L', R v L' → withV v fun v => RL c ol rest K Qp (updO ρ d v) ds (L' ++ L)) : RL c ol (⟨d, .call ⟨.value cal, xs, ts⟩, ty, pos, af, g⟩ :: rest) K Qp ρ ds L :=
  RL.fn (Lp := []) (Lr := L) hq hw hf he (List.Perm.refl _) hc ha h
theorem RL.fnQ {f : FuncId} {vals : List Value} {v : Value} {cal : Operand} {xs : Array Operand} {ts : Array TypeId} (hw : wantE c.n ol ρ ⟨d, .call ⟨.value cal, xs, ts⟩, ty, pos, af, g⟩ = true)
    (hf : evE c.n ρ cal = .func (.func f) #[] #[]) (he : ∀ args w, (callFunc f args).run c.P w = .ok (.enter f args) w) (hc : ∀ w, St c.w0 c.S w L → Ctr c.P f vals w [] fun v' _ => v' = v) (ha : argsE c.n ρ xs = vals)
    (h : withV v fun v => RL c ol rest K Qp (updO ρ d v) ds L) : RL c ol (⟨d, .call ⟨.value cal, xs, ts⟩, ty, pos, af, g⟩ :: rest) K Qp ρ ds L := by
  rw [withV_eq] at h
  have hrun : ∀ w, (execOp (evE c.n ρ) ⟨d, .call ⟨.value cal, xs, ts⟩, ty, pos, af, g⟩).run c.P w = .ok (.enter f vals.toArray) w := fun w => by
    subst ha
    simp [execOp, resolve, Deferred.ofValue, hf, invoke, Sem.run_bind, he, argsE, ← Array.toList_map]
  cases hq : c.q with
  | false =>
    refine RL.enter (f := f) (args := vals.toArray) hq hw rfl hrun (fun w hst => ?_)
    refine CallsIn.mono (hc w hst) ?_
    rintro e w' ⟨v', L', rfl, h2, rfl⟩
    exact ⟨L, (St.comp (Lp := []) (Lr := L) hst h2).sub (List.sublist_append_right _ _), h⟩
  | true =>
    rw [RL_t hq] at h ⊢
    simp only [wpQuiet]
    rw [want_act, hw, if_pos rfl]
    refine ⟨v, fun w hst => ?_, ?_⟩
    · unfold Oper.quietAt
      rw [act_eval, hrun w]
      refine ⟨rfl, ?_⟩
      have h1 : Calls c.P f vals.toArray w _ := callsIn_wide.1 (hc w hst)
      refine h1.mono ?_
      rintro e w' ⟨v', L', rfl, h2, rfl⟩
      exact ⟨rfl, (St.comp (Lp := []) (Lr := L) hst h2).sub (List.sublist_append_right _ _)⟩
    · rw [act_put]; exact h
theorem store_cells {P : Program} {w0 : World} {S : List Nat} {L1 L2 : List Ent} {bb off tt : Nat} : ∀ (us : List Value) (i : Nat) (l : List Value) (w : World), (∀ u ∈ us, u.oneCell' = true) → St w0 S w (L1 ++ (bb, cel tt l) :: L2) → off + i + us.length ≤ l.length →
    ∃ w', (storeCells ⟨bb, off, none⟩ us i).run P w = .ok () w' ∧ St w0 S w' (L1 ++ (bb, cel tt (l.take (off + i) ++ us ++ l.drop (off + i + us.length))) :: L2) := by
  intro us
  induction us with
  | nil => intro i l w _ hst hle; exact ⟨w, rfl, by simpa using hst⟩
  | cons u us ih =>
    intro i l w h1 hst hle
    simp only [List.length_cons] at hle
    have hcell : w.cell? ⟨bb, off + i, none⟩ = some (l[off + i]'(by omega)) := by
      rw [hst.cellO (by simp : (bb, Obj.cells l.toArray tt (0, 0)) ∈ L1 ++ (bb, cel tt l) :: L2)]; exact List.getElem?_eq_getElem _
    have hblk : w.heap[bb]? = some (cel tt l) := hst.own (bb, cel tt l) (by simp)
    have hfr : w.frozen? ⟨bb, off + i, none⟩ = false := by simp [World.frozen?, hblk]
    have hrun : (store ((⟨bb, off, none⟩ : Addr).add i) u).run P w = .ok () (w.setCell ⟨bb, off + i, none⟩ u) := by
      rw [addr_add, run_store _ _ _ _ _ (h1 u (by simp))]
      simp [hcell, hfr]
    have hst2 : St w0 S (w.setCell ⟨bb, off + i, none⟩ u) (L1 ++ (bb, cel tt (l.set (off + i) u)) :: L2) := by
      refine hst.put _ ?_ rfl rfl rfl
      apply Array.ext_getElem?
      intro j
      simp only [World.setCell, Array.getElem?_modify, Array.getElem?_setIfInBounds]
      by_cases e : bb = j
      · subst e
        have hlt : bb < w.heap.size := (Array.getElem?_eq_some_iff.1 hblk).1
        have hg : w.heap[bb] = cel tt l := by rw [Array.getElem?_eq_getElem hlt] at hblk; exact Option.some.inj hblk
        simp [hlt, hg]
      · simp [e]
    obtain ⟨w2, hr2, hst3⟩ := ih (i + 1) (l.set (off + i) u) _ (fun v hv => h1 v (List.mem_cons_of_mem _ hv)) hst2 (by simp; omega)
    refine ⟨w2, by simp only [storeCells, Sem.run_bind, hrun, Result.andThen_ok]; exact hr2, ?_⟩
    have e : (l.set (off + i) u).take (off + (i + 1)) ++ us ++ (l.set (off + i) u).drop (off + (i + 1) + us.length) = l.take (off + i) ++ (u :: us) ++ l.drop (off + i + (us.length + 1)) := by
      have hlt : off + i < l.length := by omega
      have e1 : (l.set (off + i) u).take (off + (i + 1)) = l.take (off + i) ++ [u] := by
        rw [show off + (i + 1) = off + i + 1 from rfl, List.take_succ_eq_append_getElem (by simpa using hlt), List.take_set_of_le (Nat.le_refl _)]
        simp
      have e2 : (l.set (off + i) u).drop (off + (i + 1) + us.length) = l.drop (off + i + (us.length + 1)) := by
        rw [show off + (i + 1) + us.length = off + i + (us.length + 1) from by omega]
        exact List.drop_set_of_lt (by omega)
      rw [e1, e2]
      simp
    rw [e] at hst3
    exact hst3
theorem RL.storeG {v : Value} {l ls : List Value} {bb off tt : Nat} {L' : List Ent} (f : List Value → List Value) (hq : c.q = false) (hw : wantE c.n ol ρ ⟨d, .store t x y, ty, pos, af, g⟩ = true) (hs : ∀ w, (sizeOf t).run c.P w = .ok ls.length w) (hx : evE c.n ρ x = .pointer (some ⟨bb, off, none⟩)) (hy : evE c.n ρ y = v) (hv : v.cells = ls.toArray) (h1 : ∀ u ∈ ls, u.oneCell' = true)
    (hlen : off + ls.length ≤ l.length) (hl' : l.take off ++ ls ++ l.drop (off + ls.length) = f l) [hp : PutE bb f tt l L L'] (h : RL c ol rest K Qp (updO ρ d undef) ds L') : RL c ol (⟨d, .store t x y, ty, pos, af, g⟩ :: rest) K Qp ρ ds L := by
  obtain ⟨L1, L2, rfl, rfl⟩ := hp.out
  refine RL.step hq hw rfl fun w hst => ?_
  obtain ⟨w', hr, hst'⟩ := store_cells (P := c.P) (off := off) ls 0 l w h1 hst (by simpa using hlen)
  refine ⟨undef, w', _, .inr ⟨?_, rfl⟩, (by simpa [hl'] using hst'), h⟩
  simp [execOp, hx, hy, Instr.storeAt, Instr.sureAddr, storeVar, Sem.run_bind, hs, hv, hr]
theorem RL.st1 {v : Value} {l : List Value} {bb off tt : Nat} {L' : List Ent} (hq : c.q = false) (hw : wantE c.n ol ρ ⟨d, .store t x y, ty, pos, af, g⟩ = true) (hs : ∀ w, (sizeOf t).run c.P w = .ok 1 w) (hx : evE c.n ρ x = .pointer (some ⟨bb, off, none⟩)) (hy : evE c.n ρ y = v) (hv : v.cells = #[v]) (h1 : v.oneCell' = true)
    (hlen : off < l.length) [hp : PutE bb (fun l => l.set off v) tt l L L'] (h : RL c ol rest K Qp (updO ρ d undef) ds L') : RL c ol (⟨d, .store t x y, ty, pos, af, g⟩ :: rest) K Qp ρ ds L := by
  refine RL.storeG (ls := [v]) (l := l) (fun l => l.set off v) hq hw hs hx hy hv (by simpa using h1) (by simp; omega) ?_ h
  simp only [List.set_eq_take_append_cons_drop, if_pos hlen]
  simp
theorem RL.stS {A : Option Addr} {m n : Nat} {l : List Value} {bb off tt : Nat} {L' : List Ent} (hq : c.q = false) (hw : wantE c.n ol ρ ⟨d, .store t x y, ty, pos, af, g⟩ = true) (hs : ∀ w, (sizeOf t).run c.P w = .ok 1 w) (hx : evE c.n ρ x = .pointer (some ⟨bb, off, none⟩)) (hy : evE c.n ρ y = .slice A m n)
    [hp : PutE bb (fun l => l.set off (.slice A m n)) tt l L L'] (hlen : off < l.length) (h : RL c ol rest K Qp (updO ρ d undef) ds L') : RL c ol (⟨d, .store t x y, ty, pos, af, g⟩ :: rest) K Qp ρ ds L := RL.st1 hq hw hs hx hy rfl rfl hlen h
end
end Go.Proofs.YtpcdcemcjbeajaaGreatDoor
end
section
set_option linter.unusedVariables false
set_option linter.unusedSimpArgs false
namespace Go.Proofs.YtpcdcemcjbeajaaGreatDoor
open Go.RowKit
def EqR (P : Program) (d : Nat) (t : TypeId) (x y : Value) (p : Prop) : Prop := ∀ w, ∃ r : Bool, (Op.equalIn d t x y).run P w = .ok r w ∧ (r = true ↔ p)
section
variable {P : Program} {d : Nat} {t e : TypeId} {xs ys : Array Value}
theorem EqR.congr {x y : Value} {p q : Prop} (h : EqR P d t x y p) (e : p ↔ q) : EqR P d t x y q := fun w => let ⟨r, h1, h2⟩ := h w; ⟨r, h1, h2.trans e⟩
theorem EqR.int {k k' : IntKind} {a b : Int} (hu : P.underlying t = some (.int k')) : EqR P (d + 1) t (.int k a) (.int k b) (a = b) :=
  fun w => ⟨a == b, run_equalIn_int w d t k k' a b hu, by simp⟩
theorem EqR.bool {a b : Bool} (hu : P.underlying t = some .bool) : EqR P (d + 1) t (.bool a) (.bool b) (a = b) :=
  fun w => ⟨a == b, run_equalIn_bool' w d t a b hu, by simp⟩
theorem part_s (hs : Scalar P t) {off : Nat} {v : Value} (hv : xs[off]? = some v) (w : World) : (part t xs off).run P w = .ok v w := by
  simp [part, Sem.run_bind, hs.agg w, hv]
theorem part_a {n : Nat} (hs : AggT P t n) {off : Nat} {l : List Value} (hv : (xs.toList.drop off).take n = l) (w : World) : (part t xs off).run P w = .ok (.agg l.toArray) w := by
  have : xs.extract off (off + n) = l.toArray := by
    rw [← hv]
    apply Array.ext'
    simp [Array.toList_extract, List.extract_eq_take_drop]
  simp [part, Sem.run_bind, hs.agg w, hs.size w, this]
def PartR (P : Program) (d : Nat) (e : TypeId) (xs ys : Array Value) (off : Nat) (p : Prop) : Prop :=
  ∃ a b, (∀ w, (part e xs off).run P w = .ok a w) ∧ (∀ w, (part e ys off).run P w = .ok b w) ∧ EqR P d e a b p
theorem EqR.array {n sz : Nat} {p : Nat → Prop} {i : TypeInfo} (hu : P.underlying t = some (.array n e)) (hi : P.info? e = some i) (hs : P.cellsOf e = sz) (h : ∀ i, i < n → PartR P d e xs ys (i * sz) (p i)) : EqR P (d + 1) t (.agg xs) (.agg ys) (∀ i, i < n → p i) := by
  intro w
  rw [run_equalIn_array w d xs ys hu hi, hs]
  have key : ∀ is : List Nat, (∀ i ∈ is, i < n) → ∃ r : Bool, (Op.eqItems d e sz xs ys is).run P w = .ok r w ∧ (r = true ↔ ∀ i ∈ is, p i) := by
    intro is
    induction is with
    | nil => intro _; exact ⟨true, by simp [Op.eqItems], by simp⟩
    | cons i is ih =>
      intro hall
      obtain ⟨r', hr', hi'⟩ := ih fun j hj => hall j (List.mem_cons_of_mem _ hj)
      obtain ⟨a, b, h1, h2, h3⟩ := h i (hall i (by simp))
      obtain ⟨r, hr, hir⟩ := h3 w
      simp only [Op.eqItems, Sem.run_bind, h1, h2, hr, Result.andThen_ok]
      cases r
      · exact ⟨false, by simp, by simp; intro hp; exact absurd (hir.2 hp) (by simp)⟩
      · refine ⟨r', by simpa using hr', ?_⟩
        rw [hi']; simp [hir.1 rfl]
  obtain ⟨r, hr, hiff⟩ := key (List.range n) (by simp)
  exact ⟨r, hr, by rw [hiff]; simp⟩
inductive FldsR (P : Program) (d : Nat) (xs ys : Array Value) : List Field → Prop → Prop
  | nil : FldsR P d xs ys [] True
  | cons {f : Field} {fs : List Field} {p q : Prop} (hn : (f.name == "_") = false) (h : PartR P d f.type xs ys f.offset p) (hr : FldsR P d xs ys fs q) : FldsR P d xs ys (f :: fs) (p ∧ q)
theorem EqR.struct {fs : Array Field} {p : Prop} (hu : P.underlying t = some (.struct fs)) (hp : P.stoodInHeld t = false) (h : FldsR P d xs ys fs.toList p) : EqR P (d + 1) t (.agg xs) (.agg ys) p := by
  intro w
  have hf : P.fieldsOf t = fs := by simp [Program.fieldsOf, hu]
  rw [run_equalIn_struct (P := P) w d t xs ys (by rw [hf]; exact hu) hp, hf]
  generalize fs.toList = l at h
  clear hu hf
  induction h with
  | nil => exact ⟨true, by simp [Op.eqFields], by simp⟩
  | cons hn h hr ih =>
    rename_i f fs' p' q'
    obtain ⟨r', hr', hi'⟩ := ih
    obtain ⟨a, b, h1, h2, h3⟩ := h
    obtain ⟨r, hr, hir⟩ := h3 w
    have hn' : f.name ≠ "_" := by simpa using hn
    simp only [Op.eqFields, if_pos hn', Sem.run_bind, h1, h2, hr, Result.andThen_ok]
    cases r
    · exact ⟨false, by simp, by simp; intro hp; exact absurd (hir.2 hp) (by simp)⟩
    · refine ⟨r', by simpa using hr', ?_⟩
      rw [hi']; simp [hir.1 rfl]
end
section
variable {c : Cx} {Qp : Po} {K : Ko} {ρ : Env} {ds : Ds} {L : List Ent} {ol rest : List Oper}
variable {d : Option Nat} {ty : TypeId} {pos : String} {af : Array Edge} {g : Option (Nat × Bool)} {t t' : TypeId} {x y : Operand}
end
end Go.Proofs.YtpcdcemcjbeajaaGreatDoor
end
section
set_option linter.unusedVariables false
set_option linter.unusedSimpArgs false
namespace Go.Proofs.YtpcdcemcjbeajaaGreatDoor
open Go.RowKit
structure ElT (P : Program) (e : TypeId) (sz bytes : Nat) (z : List Value) : Prop where
  info : ∃ i, P.info? e = some i ∧ i.size = sz ∧ i.bytes = bytes
  zero : ZeroT P e z
  zlen : z.length = sz
  one : ∀ u ∈ z, u.oneCell' = true
theorem ElT.mk' {P : Program} {e : TypeId} {sz bytes : Nat} {z : List Value} (h : (P.info? e).map (fun i => (i.size, i.bytes)) = some (sz, bytes)) (hz : ZeroT P e z) (hl : z.length = sz) (h1 : z.all Value.oneCell' = true) : ElT P e sz bytes z := by
  refine ⟨?_, hz, hl, by simpa using h1⟩
  cases hi : P.info? e with
  | none => simp [hi] at h
  | some i => simp [hi] at h; exact ⟨i, rfl, h.1, h.2⟩
section
variable {P : Program} {e : TypeId} {sz bytes : Nat} {z : List Value}
theorem ElT.run_info (h : ElT P e sz bytes z) (w : World) : ∃ i, (typeInfo e).run P w = .ok i w ∧ i.bytes = bytes := by
  obtain ⟨i, h1, h2, h3⟩ := h.info
  exact ⟨i, by simp [typeInfo, h1], h3⟩
end
inductive Row (e sz : Nat) : Value → List Value → List Ent → Prop
  | nil : Row e sz (.slice none 0 0) [] []
  | blk (b m cp : Nat) (xs junk : List Value) (h1 : xs.length = m * sz) (h2 : (xs ++ junk).length = cp * sz) (h3 : m ≤ cp) : Row e sz (.slice (some ⟨b, 0, none⟩) m cp) xs [(b, cel e (xs ++ junk))]
theorem Row.slice {e sz : Nat} {v : Value} {xs : List Value} {Lr : List Ent} (h : Row e sz v xs Lr) (hsz : 0 < sz) : ∃ A m cp, v = .slice A m cp ∧ xs.length = m * sz ∧ m ≤ cp ∧ (0 < m → ∃ b, A = some ⟨b, 0, none⟩) := by
  cases h with
  | nil => exact ⟨none, 0, 0, rfl, by simp, Nat.le_refl _, fun h => absurd h (by simp)⟩
  | blk b m cp xs junk h1 h2 h3 => exact ⟨_, m, cp, rfl, h1, h3, fun _ => ⟨b, rfl⟩⟩
theorem Row.reads {e sz : Nat} {v : Value} {xs : List Value} {Lr L : List Ent} {w0 w : World} {S : List Nat} (h : Row e sz v xs Lr) (hst : St w0 S w L) (hs : ∀ p ∈ Lr, p ∈ L) : ∃ A m cp, v = .slice A m cp ∧ xs.length = m * sz ∧ m ≤ cp ∧ (A = none ∧ xs = [] ∨ ∃ b, A = some ⟨b, 0, none⟩ ∧ CellsAt w b 0 xs) := by
  cases h with
  | nil => exact ⟨none, 0, 0, rfl, by simp, Nat.le_refl _, .inl ⟨rfl, rfl⟩⟩
  | blk b m cp xs junk h1 h2 h3 =>
    refine ⟨_, m, cp, rfl, h1, h3, .inr ⟨b, rfl, ?_⟩⟩
    intro j v hv
    rw [hst.cellO (hs _ List.mem_cons_self)]
    rw [Nat.zero_add, List.getElem?_append_left (List.getElem?_eq_some_iff.1 hv).1]; exact hv
theorem growBy_le (n : Nat) : ∀ (r c : Nat), Builtin.growBy n r c ≤ max c (2 * n + 768)
  | 0, c => by simp [Builtin.growBy]; omega
  | r + 1, c => by
    simp only [Builtin.growBy]
    split
    · omega
    · have := growBy_le n r (c + (c + 768) / 4); omega
theorem nextcap_le {n c : Nat} (h : c < n) : Builtin.nextslicecap n c ≤ 2 * n + 768 := by
  unfold Builtin.nextslicecap
  split
  · omega
  · split
    · omega
    · have := growBy_le n 4 c; omega
theorem replicate_zero_cells (z : List Value) (n : Nat) : (Builtin.zeroCells z.toArray n).size = n * z.length := by simp [Builtin.zeroCells]
theorem run_append {P : Program} {t t2 e e2 sz bytes : Nat} {z : List Value} {w0 w : World} {S : List Nat} {v x : Value} {xs ys : List Value} {Lr Lz : List Ent} {n ty : Nat} (hT : SlT P t e sz) (hE : ElT P e sz bytes z) (hsz : 0 < sz)
    (hu : P.underlying t2 = some (.slice e2)) (hn : (Builtin.lenOf x).run P w = .ok n w) (hys : ys.length = n * sz) (h1 : ∀ u ∈ ys, u.oneCell' = true)
    (hf : ∀ w', St w0 S w' (Lr ++ Lz) → (Builtin.firstCells sz n x).run P w' = .ok ys.toArray w') (hrow : Row e sz v xs Lr) (hst : St w0 S w (Lr ++ Lz)) (hb : ∀ m, xs.length = m * sz → (2 * (m + n) + 768) * bytes ≤ 281474976710656) (hb0 : 0 < bytes) :
    ∃ v' Lr' w', (Builtin.append_ #[t, t2] ty #[v, x]).run P w = .ok v' w' ∧ Row e sz v' (xs ++ ys) Lr' ∧ St w0 S w' (Lr' ++ Lz) ∧ (xs ++ ys = [] → Lr = [] → v' = v) := by
  have hrs := hrow.slice hsz
  obtain ⟨A, m, cp, rfl, hm, hmc, hA⟩ := hrs
  obtain ⟨ii, hi1, hi2⟩ := hE.run_info w
  have hbm := hb m hm
  unfold Builtin.append_
  simp only [List.getElem?_toArray, List.getElem?_cons_zero, List.getElem?_cons_succ, Sem.run_bind, run_underlying hT.und, Result.andThen_ok, run_underlying hu, hT.size, Sem.run_pure, Bool.false_eq_true, if_false, hn, Bool.not_false, if_true, Sem.run_ite]
  by_cases hle : m + n ≤ cp
  · rw [if_pos hle]
    simp only [hf w hst, Sem.run_bind, Result.andThen_ok]
    cases hrow with
    | nil =>
      have hn0 : n = 0 := by omega
      subst hn0
      have hy0 : ys = [] := by simpa using hys
      subst hy0
      exact ⟨_, [], w, by simp, by simpa using Row.nil, by simpa using hst, fun _ _ => rfl⟩
    | blk b m cp xs junk h2 h3 h4 =>
      obtain ⟨w', hr, hst'⟩ := store_cells (P := P) (w0 := w0) (S := S) (L1 := []) (L2 := Lz) (bb := b) (off := m * sz) (tt := e) ys 0 (xs ++ junk) w h1 (by simpa using hst) (by
        rw [h3, hys, Nat.add_zero, ← Nat.add_mul]; exact Nat.mul_le_mul_right sz hle)
      refine ⟨.slice (some ⟨b, 0, none⟩) (m + n) cp, [(b, cel e ((xs ++ ys) ++ junk.drop ys.length))], w', by simp [addr_add, hr], ?_, ?_, fun h0 hL0 => by simp at hL0⟩
      · refine Row.blk b (m + n) cp (xs ++ ys) (junk.drop ys.length) (by simp [h2, hys, Nat.add_mul]) ?_ hle
        have hj : ys.length ≤ junk.length := by
          have h5 : (m + n) * sz ≤ cp * sz := Nat.mul_le_mul_right sz hle
          rw [Nat.add_mul] at h5
          simp only [List.length_append] at h3
          omega
        simp only [List.length_append, List.length_drop] at h3 ⊢
        omega
      · have e1 : (xs ++ junk).take (m * sz) = xs := by rw [← h2]; simp
        have e2 : (xs ++ junk).drop (m * sz + ys.length) = junk.drop ys.length := by rw [← h2, List.drop_append]; simp
        simp only [Nat.add_zero, e1, e2, List.nil_append] at hst'
        simpa using hst'
  · rw [if_neg hle]
    have hnc := nextcap_le (n := m + n) (c := cp) (by omega)
    have hc1 : ¬ (((m + n : Nat) : Int) > IntKind.i64.max ∧ (False ∨ ii.bytes = 0)) := by
      rintro ⟨_, h | h⟩
      · exact h
      · omega
    have hc2 : ¬ (Builtin.nextslicecap (m + n) cp * ii.bytes > 2 ^ 48) := by
      rw [hi2]
      have := Nat.mul_le_mul_right bytes hnc
      omega
    obtain ⟨zv, hz1, hz2⟩ := hE.zero
    have hold : ∀ w', St w0 S w' (Lr ++ Lz) → (Builtin.firstCells sz m (.slice A m cp)).run P w' = .ok xs.toArray w' := by
      intro w' hst'
      obtain ⟨A', m', cp', he, h2, h3, h4⟩ := hrow.reads hst' (fun p hp => List.mem_append_left _ hp)
      injection he with e1 e2 e3
      subst e1 e2 e3
      rcases h4 with ⟨rfl, rfl⟩ | ⟨b, rfl, hc⟩
      · simp [Builtin.firstCells]
      · simp only [Builtin.firstCells]
        rw [← h2]
        exact run_loadCells_list (P := P) w' ⟨b, 0, none⟩ xs (fun j v hv => by rw [addr_add]; exact hc j v hv)
    obtain ⟨q, hq⟩ : ∃ q, q = Question.appendCap (m + n) cp e := ⟨_, rfl⟩
    obtain ⟨w1, hw1⟩ : ∃ w1 : World, w1 = { w with drawn := w.drawn + 1 } := ⟨_, rfl⟩
    have hst1 : St w0 S w1 (Lr ++ Lz) := by rw [hw1]; exact hst.drawn _
    obtain ⟨nc, hnc1, hnc2⟩ : ∃ nc, (choose q).run P w = .ok nc w1 ∧ m + n ≤ nc := by
      refine ⟨q.cut (w.tape w.drawn q), by subst hq hw1; simp [Question.forced], ?_⟩
      subst hq
      simp only [Question.cut]
      omega
    have hlz : z.length = sz := hE.zlen
    obtain ⟨w2, hw2⟩ : ∃ w2, w1.alloc (cel e (xs ++ ys ++ (Builtin.zeroCells z.toArray (nc - (m + n))).toList)) = w2 := ⟨_, rfl⟩
    refine ⟨.slice (some ⟨w1.heap.size, 0, none⟩) (m + n) nc, [(w1.heap.size, cel e (xs ++ ys ++ (Builtin.zeroCells z.toArray (nc - (m + n))).toList))], w2, ?_, ?_, ?_, ?_⟩
    · simp only [hi1, Sem.run_bind, Result.andThen_ok, Sem.run_ite, if_neg hc2]
      rw [if_neg (by simpa using hc1)]
      rw [← hq]
      simp only [Sem.run_bind, hnc1, Result.andThen_ok]
      obtain ⟨i3, hi3, hi4⟩ := hE.run_info w1
      simp only [hi3, Result.andThen_ok, run_askRoom, hold w1 hst1, hf w1 hst1, hz2, hz1]
      simp only [newRow, run_newObj, Sem.run_bind, Result.andThen_ok, Sem.run_pure, World.alloc_eq]
      rw [← hw2]
      simp only [Result.ok.injEq, true_and]
      congr 2
      apply Array.ext'
      simp
    · refine Row.blk _ (m + n) nc (xs ++ ys) _ (by simp [hm, hys, Nat.add_mul]) ?_ hnc2
      simp only [List.length_append, Array.length_toList, replicate_zero_cells, hm, hys, hlz]
      rw [← Nat.add_mul, ← Nat.add_mul]
      congr 1
      omega
    · rw [← hw2]
      have h5 := hst1.alloc (cel e (xs ++ ys ++ (Builtin.zeroCells z.toArray (nc - (m + n))).toList))
      refine h5.sub ?_
      simp only [List.singleton_append]
      exact List.Sublist.cons_cons _ (List.sublist_append_right _ _)
    · intro h0 hL0
      exfalso
      have : (xs ++ ys).length = (m + n) * sz := by simp [hm, hys, Nat.add_mul]
      rw [h0] at this
      have : (m + n) * sz = 0 := by simpa using this.symm
      rcases Nat.mul_eq_zero.1 this with h | h <;> omega
section
variable {c : Cx} {Qp : Po} {K : Ko} {ρ : Env} {ds : Ds} {L : List Ent} {ol rest : List Oper}
variable {d : Option Nat} {ty : TypeId} {pos : String} {af : Array Edge} {g : Option (Nat × Bool)} {t t2 : TypeId} {x y : Operand}
theorem RL.append {e sz bytes n cy : Nat} {z : List Value} {v : Value} {xs ys : List Value} {Lr Lz : List Ent} {B : Option Addr} (hq : c.q = false) (hw : wantE c.n ol ρ ⟨d, .call ⟨.builtin .append, #[x, y], #[t, t2]⟩, ty, pos, af, g⟩ = true) (hT : SlT c.P t e sz) (hE : ElT c.P e sz bytes z) (hsz : 0 < sz) (hb0 : 0 < bytes)
    {e2 : Nat} (hu : c.P.underlying t2 = some (.slice e2)) (hL : L.Perm (Lr ++ Lz)) (hx : evE c.n ρ x = v) (hrow : Row e sz v xs Lr) (hy : evE c.n ρ y = .slice B n cy) (hys : ys.length = n * sz) (h1 : ∀ u ∈ ys, u.oneCell' = true)
    (hc : ∀ w, St c.w0 c.S w (Lr ++ Lz) → ys = [] ∨ ∃ b o, B = some ⟨b, o, none⟩ ∧ CellsAt w b o ys) (hb : ∀ m, xs.length = m * sz → (2 * (m + n) + 768) * bytes ≤ 281474976710656)
    (h : ∀ v' Lr', Row e sz v' (xs ++ ys) Lr' → RL c ol rest K Qp (updO ρ d v') ds (Lr' ++ Lz)) : RL c ol (⟨d, .call ⟨.builtin .append, #[x, y], #[t, t2]⟩, ty, pos, af, g⟩ :: rest) K Qp ρ ds L := by
  refine RL.step hq hw rfl fun w hst0 => ?_
  have hst := hst0.perm hL.symm
  obtain ⟨v', Lr', w', hr, hrow', hst', _⟩ := run_append (P := c.P) (t := t) (t2 := t2) (w := w) (ty := ty) (x := .slice B n cy) (n := n) hT hE hsz hu (by simp [Builtin.lenOf]) hys h1 (fun w' hw' => by
    rcases hc w' hw' with rfl | ⟨b, o, rfl, hcc⟩
    · have h0 : n * sz = 0 := by simpa using hys.symm
      cases B with
      | none => simp [Builtin.firstCells]
      | some a => simp [Builtin.firstCells, h0, loadCells, loadCellsFrom]
    · simp only [Builtin.firstCells, ← hys]
      exact run_loadCells_list (P := c.P) w' ⟨b, o, none⟩ ys (fun j v hv => by rw [addr_add]; exact hcc j v hv)) hrow hst hb hb0
  refine ⟨v', w', Lr' ++ Lz, .inl ?_, hst', h v' Lr' hrow'⟩
  simp [execOp, resolve, invoke, builtin, hx, hy, Sem.run_bind, hr]
theorem RL.bs0 {e sz : Nat} (hq : c.q = false) (hw : wantE c.n ol ρ ⟨d, .buildSlice t 0 #[], ty, pos, af, g⟩ = true) (hT : SlT c.P t e sz) (h : ∀ bb, c.w0.heap.size ≤ bb → RL c ol rest K Qp (updO ρ d (.slice (some ⟨bb, 0, none⟩) 0 0)) ds ((bb, cel e []) :: L)) :
    RL c ol (⟨d, .buildSlice t 0 #[], ty, pos, af, g⟩ :: rest) K Qp ρ ds L :=
  RL.step hq hw rfl fun w hst => ⟨_, w.alloc (cel e []), _, .inl (by
    simp [execOp, Instr.buildSlice, Sem.run_bind, run_underlying hT.und, hT.size, Instr.fill, newRow]; congr 2; apply Array.ext <;> simp), hst.alloc _, h _ hst.size⟩
theorem fill_all (z : Nat → Value) (sz : Nat) (v : Value) (l : List Value) (hv : v.cells = l.toArray) (hl : l.length = sz) : Instr.fill (fun i => some (i * sz, sz)) ((Array.range (1 * sz)).map z) [(0, v)] = some l.toArray := by
  simp only [Instr.fill]
  rw [if_neg (by simp [hv, hl])]
  congr 1
  rw [hv]
  have key : ∀ (l : List Value) (k : Nat) (cs : Array Value), k + l.length ≤ cs.size → ((l.zipIdx k).foldl (fun (cs : Array Value) (x : Value × Nat) => cs.setIfInBounds (0 * sz + x.2) x.1) cs).toList = cs.toList.take k ++ l ++ cs.toList.drop (k + l.length) := by
    intro l
    induction l with
    | nil => intro k cs h; simp
    | cons a l ih =>
      intro k cs h
      simp only [List.length_cons] at h
      simp only [List.zipIdx_cons, List.foldl_cons]
      rw [ih (k + 1) _ (by simp; omega)]
      simp only [Nat.zero_mul, Nat.zero_add, Array.toList_setIfInBounds, List.length_cons]
      have hk : k < cs.toList.length := by simp; omega
      have e1 : (cs.toList.set k a).take (k + 1) = cs.toList.take k ++ [a] := by
        rw [List.take_succ_eq_append_getElem (by simpa using hk), List.take_set_of_le (Nat.le_refl _)]; simp
      have e2 : (cs.toList.set k a).drop (k + 1 + l.length) = cs.toList.drop (k + (l.length + 1)) := by
        rw [show k + 1 + l.length = k + (l.length + 1) from by omega]; exact List.drop_set_of_lt (by omega)
      rw [e1, e2]; simp
  apply Array.ext'
  rw [← Array.foldl_toList, Array.toList_zipIdx]
  have := key l 0 ((Array.range (1 * sz)).map z) (by simp [hl])
  simp only [List.toList_toArray] at this ⊢
  rw [this]
  simp [hl]
theorem RL.bs1 {e sz : Nat} {v : Value} {l : List Value} {zz : List Value} (hq : c.q = false) (hw : wantE c.n ol ρ ⟨d, .buildSlice t 1 #[(0, x)], ty, pos, af, g⟩ = true) (hT : SlT c.P t e sz) (hz : ZeroT c.P e zz) (hx : evE c.n ρ x = v) (hv : v.cells = l.toArray) (hl : l.length = sz) (hs : sz ≤ 16777216)
    (h : ∀ bb, c.w0.heap.size ≤ bb → RL c ol rest K Qp (updO ρ d (.slice (some ⟨bb, 0, none⟩) 1 1)) ds ((bb, cel e l) :: L)) : RL c ol (⟨d, .buildSlice t 1 #[(0, x)], ty, pos, af, g⟩ :: rest) K Qp ρ ds L := by
  obtain ⟨zv, hz1, hz2⟩ := hz
  refine RL.step hq hw rfl fun w hst => ⟨_, w.alloc (cel e l), _, .inl ?_, hst.alloc _, h _ hst.size⟩
  have hc : ¬ (1 * sz > 2 ^ 24) := by omega
  have hf := fun z => fill_all z sz v l hv hl
  by_cases h0 : 1 * sz = 0
  · have h0' : sz = 0 := by omega
    have := hf (fun i => (#[] : Array Value)[i % (#[] : Array Value).size]!)
    simp [execOp, Instr.buildSlice, Sem.run_bind, run_underlying hT.und, hT.size, newRow, h0', hx] at this ⊢
    rw [this]; simp
  · have := hf (fun i => (zv.cells)[i % zv.cells.size]!)
    simp only [execOp, Instr.buildSlice, Sem.run_bind, run_underlying hT.und, Result.andThen_ok, hT.size, Sem.run_ite, if_neg hc, if_neg h0, hz2, Sem.run_pure, List.map_toArray, List.map_cons, List.map_nil, hx, List.toList_toArray] at this ⊢
    rw [this]
    simp [newRow]
theorem RL.bs1I {e : Nat} {k : IntKind} {a : Int} {zz : List Value} (hq : c.q = false) (hw : wantE c.n ol ρ ⟨d, .buildSlice t 1 #[(0, x)], ty, pos, af, g⟩ = true) (hT : SlT c.P t e 1) (hz : ZeroT c.P e zz) (hx : evE c.n ρ x = .int k a)
    (h : ∀ bb, c.w0.heap.size ≤ bb → RL c ol rest K Qp (updO ρ d (.slice (some ⟨bb, 0, none⟩) 1 1)) ds ((bb, cel e [.int k a]) :: L)) : RL c ol (⟨d, .buildSlice t 1 #[(0, x)], ty, pos, af, g⟩ :: rest) K Qp ρ ds L := RL.bs1 hq hw hT hz hx rfl rfl (by decide) h
theorem RL.bldC {vs : List (Nat × Value)} {cells : List Value} {ps : Array (Nat × Operand)} (hw : wantE c.n ol ρ ⟨d, .build t ps, ty, pos, af, g⟩ = true) (hv : (ps.toList.map fun (i, x) => (i, evE c.n ρ x)) = vs) (hr : ∀ w, (Instr.build t vs.toArray).run c.P w = .ok (.agg cells.toArray) w)
    (h : RL c ol rest K Qp (updO ρ d (.agg cells.toArray)) ds L) : RL c ol (⟨d, .build t ps, ty, pos, af, g⟩ :: rest) K Qp ρ ds L := by
  refine RL.pure hw rfl (fun w => ?_) h
  have e1 : (ps.map fun (x : Nat × Operand) => (x.1, evE c.n ρ x.2)) = vs.toArray := by apply Array.ext'; rw [← hv]; simp
  simp only [execOp, Sem.run_bind]
  rw [e1, hr w]
  rfl
end
theorem Row.open {e sz m cp : Nat} {A : Option Addr} {xs : List Value} {Lr : List Ent} (h : Row e sz (.slice A m cp) xs Lr) (hm : 0 < m) : ∃ b junk, A = some ⟨b, 0, none⟩ ∧ Lr = [(b, cel e (xs ++ junk))] := by
  cases h with
  | nil => omega
  | blk b m cp xs junk h1 h2 h3 => exact ⟨b, junk, rfl, rfl⟩
theorem RL.app1I {c : Cx} {Qp : Po} {K : Ko} {ρ : Env} {ds : Ds} {ol rest : List Oper} {d : Option Nat} {ty : TypeId} {pos : String} {af : Array Edge} {g : Option (Nat × Bool)} {t t2 e2 : TypeId} {x y : Operand} {e bb : Nat} {k : IntKind} {a : Int} {z : List Value} {v : Value} {xs : List Value} {Lr Lz L0 : List Ent}
    (hq : c.q = false) (hw : wantE c.n ol ρ ⟨d, .call ⟨.builtin .append, #[x, y], #[t, t2]⟩, ty, pos, af, g⟩ = true) (hT : SlT c.P t e 1) (hE : ElT c.P e 1 8 z) (hu : c.P.underlying t2 = some (.slice e2)) (hL : L0.Perm (Lr ++ Lz)) (hx : evE c.n ρ x = v) (hy : evE c.n ρ y = .slice (some ⟨bb, 0, none⟩) 1 1) (hrow : Row e 1 v xs Lr)
    (hb : xs.length ≤ 1000000) {n : Nat} (hn : n = xs.length + 1) (h : ∀ A cp Lr', Row e 1 (.slice A n cp) (xs ++ [.int k a]) Lr' → RL c ol rest K Qp (updO ρ d (.slice A n cp)) ds (Lr' ++ (Lz ++ [(bb, cel e [.int k a])]))) :
    RL c ol (⟨d, .call ⟨.builtin .append, #[x, y], #[t, t2]⟩, ty, pos, af, g⟩ :: rest) K Qp ρ ds ((bb, cel e [.int k a]) :: L0) := by
  refine RL.append (Lr := Lr) (Lz := Lz ++ [(bb, cel e [.int k a])]) (n := 1) (ys := [.int k a]) hq hw hT hE (by decide) (by decide) hu ?_ hx hrow hy rfl (by simp [Value.oneCell']) (fun w hst => .inr ⟨bb, 0, rfl, ?_⟩) (fun m hm => by omega) (fun v' Lr' hr => ?_)
  · have h1 : ((bb, cel e [.int k a]) :: L0).Perm ([(bb, cel e [.int k a])] ++ (Lr ++ Lz)) := by simpa using hL.cons (bb, cel e [Value.int k a])
    refine h1.trans ?_
    rw [← List.append_assoc Lr Lz]
    exact List.perm_append_comm
  · have := hst.cellsO (b := bb) (t := e) (l := [.int k a]) (fr := (0, 0)) (by simp) 0
    simpa using this
  · obtain ⟨A, m, cp, rfl, hm, _, _⟩ := hr.slice (by decide)
    have : m = n := by simp at hm; omega
    subst this
    exact h A cp Lr' hr
end Go.Proofs.YtpcdcemcjbeajaaGreatDoor
end
