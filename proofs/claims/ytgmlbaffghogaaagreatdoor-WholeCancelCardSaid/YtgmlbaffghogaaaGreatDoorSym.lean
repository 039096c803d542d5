/-
  SYM: a small calculus of this session's own over the kit's fenced walk ('Code.wpIn'): an activation is an environment (a function from slots to values, changed by 'upd'), its deferred calls, and a list of heap blocks that are known exactly; the world itself is hidden behind 'St' (what lay before is as it was, but for the blocks in S; the listed blocks hold what the list says). Code is gone through with a stack of what is still to do ('KI'). Plain definitions and theorems.
-/
import Derived.WalkKit
import Derived.RangeFuncLeaves
import Derived.RangeFuncCalls
import Derived.RangeFuncSeq
import Derived.TacticsIn
import Derived.OrdersHeld
import Derived.Deep.Quiet
import Derived.Scope
set_option linter.unusedVariables false
set_option linter.unusedSimpArgs false
namespace Go.Proofs.YtgmlbaffghogaaaGreatDoor
open Go.RowKit

/-! ### 1. Environments -/
abbrev Env := Nat → Value
abbrev Ds := List Deferred
abbrev Ent := Nat × Obj
def upd (ρ : Env) (d : Nat) (v : Value) : Env := fun t => cond (Nat.beq t d) v (ρ t)
def updO (ρ : Env) : Option Nat → Value → Env
  | some d, v => upd ρ d v
  | none, _ => ρ
def evE (n : Nat) (ρ : Env) : Operand → Value
  | .tmp t => cond (Nat.blt t n) (ρ t) undef
  | .const v => v
  | .global g => .pointer (some ⟨g, 0, none⟩)
  | .func f => .func (.func f) #[] #[]
def act (n : Nat) (ρ : Env) (ds : Ds) : Act := { tmps := Array.ofFn (fun i : Fin n => ρ i.val), defers := ds }

theorem blt_true {a b : Nat} (h : a < b) : Nat.blt a b = true := by simpa [Nat.blt_eq] using h
theorem blt_false {a b : Nat} (h : ¬ a < b) : Nat.blt a b = false := by
  cases hb : Nat.blt a b with
  | false => rfl
  | true => rw [Nat.blt_eq] at hb; exact absurd hb h
theorem beq_self (a : Nat) : Nat.beq a a = true := by simp
theorem beq_ne {a b : Nat} (h : a ≠ b) : Nat.beq a b = false := by
  cases hb : Nat.beq a b with
  | false => rfl
  | true => exact absurd (Nat.eq_of_beq_eq_true hb) h
theorem upd_same (ρ : Env) (d : Nat) (v : Value) : upd ρ d v d = v := by simp [upd]
theorem upd_ne (ρ : Env) {d t : Nat} (v : Value) (h : t ≠ d) : upd ρ d v t = ρ t := by simp [upd, beq_ne h]
theorem upd_self {ρ : Env} {d : Nat} {v : Value} (h : ρ d = v) : upd ρ d v = ρ := by
  funext t
  by_cases e : t = d
  · subst e; rw [upd_same, h]
  · rw [upd_ne _ _ e]

/-- Some slots hold what the list says. -/
def Has (ρ : Env) : List (Nat × Value) → Prop
  | [] => True
  | p :: l => ρ p.1 = p.2 ∧ Has ρ l
def updL (ρ : Env) : List (Nat × Value) → Env
  | [] => ρ
  | p :: l => upd (updL ρ l) p.1 p.2
theorem Has.eq {ρ : Env} : ∀ {l : List (Nat × Value)}, Has ρ l → updL ρ l = ρ
  | [], _ => rfl
  | p :: l, h => by simp only [updL]; rw [Has.eq h.2, upd_self h.1]
theorem Has.base {ρ : Env} {l : List (Nat × Value)} (h : Has ρ l) : ∃ base, ρ = updL base l := ⟨ρ, h.eq.symm⟩
theorem act_get (n : Nat) (ρ : Env) (ds : Ds) (t : Nat) : (act n ρ ds).tmps.getD t undef = cond (Nat.blt t n) (ρ t) undef := by
  by_cases h : t < n
  · simp [act, blt_true h, h]
  · simp [act, blt_false h, h]
theorem act_get? (n : Nat) (ρ : Env) (ds : Ds) (t : Nat) : (act n ρ ds).tmps[t]? = cond (Nat.blt t n) (some (ρ t)) none := by
  by_cases h : t < n
  · simp [act, blt_true h, h]
  · simp [act, blt_false h, h]
theorem act_eval (n : Nat) (ρ : Env) (ds : Ds) : (act n ρ ds).eval = evE n ρ := by
  funext x
  cases x with
  | tmp t => exact act_get n ρ ds t
  | _ => rfl
theorem act_put (n : Nat) (ρ : Env) (ds : Ds) (o : Option Nat) (v : Value) : (act n ρ ds).put o v = act n (updO ρ o v) ds := by
  cases o with
  | none => rfl
  | some d =>
    simp only [act, Act.put, updO]
    congr 1
    apply Array.ext
    · simp
    · intro i h1 h2
      simp only [Array.size_setIfInBounds, Array.size_ofFn] at h1
      rw [Array.getElem_setIfInBounds (by simpa using h1)]
      by_cases e : d = i
      · subst e; simp [upd_same]
      · simp [e, upd_ne _ _ (Ne.symm e)]
def ylE (n : Nat) (ol : List Oper) (ρ : Env) (j : Nat) : Option Bool :=
  match ((ol[j]?).bind (·.dst)) with
  | some d => (match cond (Nat.blt d n) (ρ d) undef with | .bool b => some b | _ => none)
  | none => none
theorem yl_act (n : Nat) (ol : List Oper) (ρ : Env) (ds : Ds) : yielded ol.toArray (act n ρ ds).tmps = ylE n ol ρ := by
  funext j
  unfold yielded ylE
  simp only [List.getElem?_toArray]
  cases h : (ol[j]?).bind (·.dst) with
  | none => rfl
  | some d =>
    simp only [Option.bind_some]
    rw [act_get?]
    by_cases hd : d < n
    · simp only [blt_true hd, cond_true]
      cases ρ d <;> rfl
    · simp [blt_false hd, undef]
def wantE (n : Nat) (ol : List Oper) (ρ : Env) (o : Oper) : Bool :=
  match o.guard with
  | none => true
  | some (j, want) => (match ylE n ol ρ j, want with | some true, true => true | some false, false => true | _, _ => false)
theorem want_act (n : Nat) (ol : List Oper) (ρ : Env) (ds : Ds) (o : Oper) : Region.wanted o (yielded ol.toArray (act n ρ ds).tmps) = wantE n ol ρ o := by
  rw [yl_act]
  unfold Region.wanted wantE
  cases o.guard with
  | none => rfl
  | some p =>
    obtain ⟨j, want⟩ := p
    simp only []
    generalize ylE n ol ρ j = y
    cases y with
    | none => cases want <;> rfl
    | some b => cases b <;> cases want <;> rfl

/-- The environment that a function begins with. -/
def envOf (args : List Value) : Env := fun t => args.getD t undef
theorem act_init (n : Nat) (args : List Value) : ({ tmps := args.toArray ++ Array.replicate (n - args.toArray.size) undef, defers := [] } : Act) = act (max n args.length) (envOf args) [] := by
  simp only [act]
  congr 1
  apply Array.ext
  · simp; omega
  · intro i h1 h2
    rw [Array.getElem_append]
    split
    · rename_i h; simp at h; simp [envOf, h]
    · rename_i h; simp at h; simp [envOf, h]

/-! ### 2. The world behind a list of blocks -/
structure St (w0 : World) (S : List Nat) (w : World) (L : List Ent) : Prop where
  os : w.os = w0.os
  tape : w.tape = w0.tape
  output : w.output = w0.output
  size : w0.heap.size ≤ w.heap.size
  keep : ∀ k, k < w0.heap.size → k ∉ S → w.heap[k]? = w0.heap[k]?
  own : ∀ p ∈ L, w.heap[p.1]? = some p.2
  free : ∀ p ∈ L, p.1 ∈ S ∨ w0.heap.size ≤ p.1
  nodup : (L.map (·.1)).Nodup

def keys (L : List Ent) : List Nat := L.map (·.1)
theorem St.init {w : World} {L : List Ent} (h : ∀ p ∈ L, w.heap[p.1]? = some p.2) (hn : (keys L).Nodup) : St w (keys L) w L :=
  ⟨rfl, rfl, rfl, Nat.le_refl _, fun _ _ _ => rfl, h, fun p hp => .inl (List.mem_map.2 ⟨p, hp, rfl⟩), hn⟩
theorem St.refl (w : World) : St w [] w [] := St.init (L := []) (fun _ h => by cases h) List.nodup_nil
theorem St.below {w0 w : World} {L : List Ent} (h : St w0 [] w L) : Below w0.heap.size w0 w := ⟨h.os, h.tape, h.output, h.size, fun k hk => h.keep k hk (by simp)⟩
theorem St.of_below {w0 w : World} (h : Below w0.heap.size w0 w) : St w0 [] w [] := ⟨h.os, h.tape, h.output, h.size, fun k hk _ => h.block k hk, fun _ h => (by cases h), fun _ h => (by cases h), List.nodup_nil⟩
section
variable {w0 w w' : World} {S : List Nat} {L L' L1 L2 : List Ent}
theorem St.drawn (h : St w0 S w L) (d : Nat) : St w0 S { w with drawn := d } L := ⟨h.os, h.tape, h.output, h.size, h.keep, h.own, h.free, h.nodup⟩
theorem St.sub (h : St w0 S w L) (hs : L'.Sublist L) : St w0 S w L' :=
  ⟨h.os, h.tape, h.output, h.size, h.keep, fun p hp => h.own p (hs.subset hp), fun p hp => h.free p (hs.subset hp), h.nodup.sublist (hs.map _)⟩
theorem St.perm (h : St w0 S w L) (hs : L'.Perm L) : St w0 S w L' :=
  ⟨h.os, h.tape, h.output, h.size, h.keep, fun p hp => h.own p (hs.mem_iff.1 hp), fun p hp => h.free p (hs.mem_iff.1 hp), ((hs.map _).nodup_iff).2 h.nodup⟩
theorem St.lt (h : St w0 S w L) {p : Ent} (hp : p ∈ L) : p.1 < w.heap.size := (Array.getElem?_eq_some_iff.1 (h.own p hp)).1
theorem St.alloc (h : St w0 S w L) (o : Obj) : St w0 S (w.alloc o) ((w.heap.size, o) :: L) := by
  refine ⟨h.os, h.tape, h.output, Nat.le_trans h.size (by simp), fun k hk hS => ?_, fun p hp => ?_, fun p hp => ?_, ?_⟩
  · rw [Below.heap_alloc _ _ _ (Nat.lt_of_lt_of_le hk h.size)]; exact h.keep k hk hS
  · rcases List.mem_cons.1 hp with rfl | hp
    · exact World.alloc_heap_new w o
    · rw [Below.heap_alloc _ _ _ (h.lt hp)]; exact h.own p hp
  · rcases List.mem_cons.1 hp with rfl | hp
    · exact .inr h.size
    · exact h.free p hp
  · simp only [List.map_cons, List.nodup_cons]
    refine ⟨fun hm => ?_, h.nodup⟩
    obtain ⟨p, hp, he⟩ := List.mem_map.1 hm
    have := h.lt hp
    omega
/-- One block of the list holds something else now. -/
theorem St.put {b : Nat} {o : Obj} (h : St w0 S w (L1 ++ (b, o) :: L2)) (o' : Obj) (hw : w'.heap = w.heap.setIfInBounds b o') (hos : w'.os = w.os) (ht : w'.tape = w.tape) (hout : w'.output = w.output) :
    St w0 S w' (L1 ++ (b, o') :: L2) := by
  have hlt : b < w.heap.size := h.lt (p := (b, o)) (by simp)
  have hne : ∀ p ∈ L1 ++ L2, p.1 ≠ b := by
    intro p hp e
    have hn := h.nodup
    simp only [List.map_append, List.map_cons] at hn
    have hp' : p.1 ∈ L1.map (·.1) ++ L2.map (·.1) := by
      rw [← List.map_append]; exact List.mem_map.2 ⟨p, hp, rfl⟩
    have hn2 := (List.perm_middle.nodup_iff).1 hn
    rw [List.nodup_cons] at hn2
    exact hn2.1 (e ▸ hp')
  refine ⟨hos.trans h.os, ht.trans h.tape, hout.trans h.output, by rw [hw]; simpa using h.size, fun k hk hS => ?_, fun p hp => ?_, fun p hp => ?_, ?_⟩
  · have hkb : k ≠ b := fun e => by
      subst e
      rcases h.free (k, o) (by simp) with hf | hf
      · exact hS hf
      · simp only at hf; omega
    rw [hw, Array.getElem?_setIfInBounds_ne (Ne.symm hkb)]
    exact h.keep k hk hS
  · by_cases e : p.1 = b
    · have : p = (b, o') := by
        rcases List.mem_append.1 hp with hp | hp
        · exact absurd e (hne p (List.mem_append_left _ hp))
        · rcases List.mem_cons.1 hp with hp | hp
          · exact hp
          · exact absurd e (hne p (List.mem_append_right _ hp))
      subst this
      rw [hw]; simp [hlt]
    · rw [hw, Array.getElem?_setIfInBounds_ne (Ne.symm e)]
      refine h.own p ?_
      rcases List.mem_append.1 hp with hp | hp
      · exact List.mem_append_left _ hp
      · rcases List.mem_cons.1 hp with hp | hp
        · exact absurd (by rw [hp]) e
        · exact List.mem_append_right _ (List.mem_cons_of_mem _ hp)
  · rcases List.mem_append.1 hp with hp | hp
    · exact h.free p (List.mem_append_left _ hp)
    · rcases List.mem_cons.1 hp with hp | hp
      · subst hp; exact h.free (b, o) (by simp)
      · exact h.free p (List.mem_append_right _ (List.mem_cons_of_mem _ hp))
  · have := h.nodup; simpa using this
/-- What a callee has made of the part of the list that was handed to it. -/
theorem St.comp {Lp Lr : List Ent} (h : St w0 S w (Lp ++ Lr)) (h' : St w (keys Lp) w' L') : St w0 S w' (L' ++ Lr) := by
  have hn := h.nodup
  rw [List.map_append, List.nodup_append] at hn
  have hr : ∀ p ∈ Lr, p.1 ∉ keys Lp := fun p hp hk => hn.2.2 p.1 hk p.1 (List.mem_map.2 ⟨p, hp, rfl⟩) rfl
  refine ⟨h'.os.trans h.os, h'.tape.trans h.tape, h'.output.trans h.output, Nat.le_trans h.size h'.size, fun k hk hS => ?_, fun p hp => ?_, fun p hp => ?_, ?_⟩
  · rw [h'.keep k (Nat.lt_of_lt_of_le hk h.size) (fun hm => ?_)]
    · exact h.keep k hk hS
    · obtain ⟨p, hp, rfl⟩ := List.mem_map.1 hm
      rcases h.free p (List.mem_append_left _ hp) with hf | hf
      · exact hS hf
      · omega
  · rcases List.mem_append.1 hp with hp | hp
    · exact h'.own p hp
    · rw [h'.keep p.1 (h.lt (List.mem_append_right _ hp)) (hr p hp)]
      exact h.own p (List.mem_append_right _ hp)
  · rcases List.mem_append.1 hp with hp | hp
    · rcases h'.free p hp with hf | hf
      · obtain ⟨q, hq, e⟩ := List.mem_map.1 hf
        rw [← e]; exact h.free q (List.mem_append_left _ hq)
      · exact .inr (Nat.le_trans h.size hf)
    · exact h.free p (List.mem_append_right _ hp)
  · rw [List.map_append, List.nodup_append]
    refine ⟨h'.nodup, hn.2.1, fun a ha b hb e => ?_⟩
    subst e
    obtain ⟨p, hp, rfl⟩ := List.mem_map.1 ha
    obtain ⟨q, hq, e⟩ := List.mem_map.1 hb
    rcases h'.free p hp with hf | hf
    · exact hr q hq (e ▸ hf)
    · have := h.lt (List.mem_append_right Lp hq); omega
end

/-! ### 3. Contexts, code, regions -/
structure Cx where
  P : Program
  rd : Option Nat
  n : Nat
  w0 : World
  S : List Nat
  q : Bool
abbrev Po := Exit → Env → Ds → List Ent → Prop
abbrev Ko := Env → Ds → List Ent → Prop
def FR (rd : Option Nat) : Fence := { Fence.wide with round := rd }
theorem FR_none : FR none = Fence.wide := rfl
theorem FR_fn (rd : Option Nat) (f : FuncId) : (FR rd).fn f := trivial
theorem FR_depth (rd : Option Nat) : (FR rd).depth.isSome = true → 1 ≤ 0 := fun h => by simp [FR, Fence.wide] at h
def lift (c : Cx) (Q : Po) : Exit → Act → World → Prop := fun e a w => ∃ ρ ds L, a = act c.n ρ ds ∧ St c.w0 c.S w L ∧ Q e ρ ds L
def W (c : Cx) (x : Code) (Q : Po) (ρ : Env) (ds : Ds) (L : List Ent) : Prop := ∀ w, St c.w0 c.S w L → x.wpIn (FR c.rd) 0 c.P (lift c Q) (act c.n ρ ds) w
theorem W.mono {c : Cx} {x : Code} {Q Q' : Po} {ρ : Env} {ds : Ds} {L : List Ent} (h : W c x Q ρ ds L) (hq : ∀ e ρ ds L, Q e ρ ds L → Q' e ρ ds L) : W c x Q' ρ ds L :=
  fun w hw => wpIn_mono (h w hw) fun _ _ _ ⟨ρ, ds, L, h1, h2, h3⟩ => ⟨ρ, ds, L, h1, h2, hq _ _ _ _ h3⟩

/-- What is still to do: code; the end of a block; the end of a scope; a way out that the prover has named. -/
inductive KI where
  | code (x : Code)
  | blk (id : Nat)
  | scp
  | hyp (K : Ko)
def xit (c : Cx) (Q : Po) : List KI → Po
  | [] => Q
  | .code x :: k => fun e ρ ds L => match e with | .normal => W c x (xit c Q k) ρ ds L | e => xit c Q k e ρ ds L
  | .blk id :: k => fun e ρ ds L => match e with | .exit id' => if id' = id then xit c Q k .normal ρ ds L else xit c Q k (.exit id') ρ ds L | e => xit c Q k e ρ ds L
  | .scp :: k => fun e ρ ds L => match e with | .goto _ => False | e => xit c Q k e ρ ds L
  | .hyp K :: k => fun e ρ ds L => match e with | .normal => K ρ ds L | e => xit c Q k e ρ ds L
def X (c : Cx) (k : List KI) (Q : Po) : Ko := xit c Q k .normal
section
variable {c : Cx} {k : List KI} {Q : Po} {ρ : Env} {ds : Ds} {L : List Ent}
theorem X.nil (h : Q .normal ρ ds L) : X c [] Q ρ ds L := h
theorem X.blk {id : Nat} (h : X c k Q ρ ds L) : X c (.blk id :: k) Q ρ ds L := h
theorem X.scp (h : X c k Q ρ ds L) : X c (.scp :: k) Q ρ ds L := h
theorem X.hyp {K : Ko} (h : K ρ ds L) : X c (.hyp K :: k) Q ρ ds L := h
theorem X.skip (h : X c k Q ρ ds L) : X c (.code .skip :: k) Q ρ ds L := fun w hw => wpIn_skip ⟨ρ, ds, L, rfl, hw, h⟩
theorem X.label {l : Nat} (h : X c k Q ρ ds L) : X c (.code (.label l) :: k) Q ρ ds L := fun w hw => wpIn_label ⟨ρ, ds, L, rfl, hw, h⟩
theorem X.seq {x y : Code} (h : X c (.code x :: .code y :: k) Q ρ ds L) : X c (.code (.seq x y) :: k) Q ρ ds L := by
  intro w hw
  refine wpIn_seq (wpIn_mono (h w hw) ?_)
  rintro e a w' ⟨ρ', ds', L', rfl, hst, hq⟩
  cases e with
  | normal => exact hq w' hst
  | _ => exact ⟨ρ', ds', L', rfl, hst, hq⟩
theorem X.block {id : Nat} {x : Code} (h : X c (.code x :: .blk id :: k) Q ρ ds L) : X c (.code (.block id x) :: k) Q ρ ds L := by
  intro w hw
  refine wpIn_block (wpIn_mono (h w hw) ?_)
  rintro e a w' ⟨ρ', ds', L', rfl, hst, hq⟩
  cases e with
  | exit id' =>
    simp only [xit] at hq
    simp only [Exit.inBlock]
    by_cases hid : id' = id
    · rw [if_pos hid] at hq ⊢; exact ⟨ρ', ds', L', rfl, hst, hq⟩
    · rw [if_neg hid] at hq ⊢; exact ⟨ρ', ds', L', rfl, hst, hq⟩
  | _ => exact ⟨ρ', ds', L', rfl, hst, hq⟩
theorem X.cond {o : Operand} {x y : Code} {b : Bool} (hb : evE c.n ρ o = .bool b) (h : X c (.code (if b then x else y) :: k) Q ρ ds L) : X c (.code (.cond o x y) :: k) Q ρ ds L :=
  fun w hw => wpIn_cond (by rw [act_eval]; exact hb) (h w hw)
theorem X.cond_t {o : Operand} {x y : Code} (hb : evE c.n ρ o = .bool true) (h : X c (.code x :: k) Q ρ ds L) : X c (.code (.cond o x y) :: k) Q ρ ds L := X.cond hb h
theorem X.cond_f {o : Operand} {x y : Code} (hb : evE c.n ρ o = .bool false) (h : X c (.code y :: k) Q ρ ds L) : X c (.code (.cond o x y) :: k) Q ρ ds L := X.cond hb h
theorem X.cond_s {o : Operand} {x y : Code} {p : Prop} [Decidable p] (hb : evE c.n ρ o = .bool (decide p)) (h1 : p → X c (.code x :: k) Q ρ ds L) (h2 : ¬ p → X c (.code y :: k) Q ρ ds L) : X c (.code (.cond o x y) :: k) Q ρ ds L := by
  by_cases hp : p
  · exact X.cond_t (by rw [hb]; simp [hp]) (h1 hp)
  · exact X.cond_f (by rw [hb]; simp [hp]) (h2 hp)
theorem X.cond_b {o : Operand} {x y : Code} {b : Bool} (hb : evE c.n ρ o = .bool b) (h1 : b = true → X c (.code x :: k) Q ρ ds L) (h2 : b = false → X c (.code y :: k) Q ρ ds L) : X c (.code (.cond o x y) :: k) Q ρ ds L := by
  cases b with
  | true => exact X.cond_t hb (h1 rfl)
  | false => exact X.cond_f hb (h2 rfl)
theorem xit_ret (c : Cx) (Q : Po) : ∀ k, xit c Q k .ret = Q .ret
  | [] => rfl
  | .code _ :: k => by funext ρ ds L; simp only [xit]; rw [xit_ret c Q k]
  | .blk _ :: k => by funext ρ ds L; simp only [xit]; rw [xit_ret c Q k]
  | .scp :: k => by funext ρ ds L; simp only [xit]; rw [xit_ret c Q k]
  | .hyp _ :: k => by funext ρ ds L; simp only [xit]; rw [xit_ret c Q k]
theorem xit_panic (c : Cx) (Q : Po) (ch : List PanicEntry) : ∀ k, xit c Q k (.panic ch) = Q (.panic ch)
  | [] => rfl
  | .code _ :: k => by funext ρ ds L; simp only [xit]; rw [xit_panic c Q ch k]
  | .blk _ :: k => by funext ρ ds L; simp only [xit]; rw [xit_panic c Q ch k]
  | .scp :: k => by funext ρ ds L; simp only [xit]; rw [xit_panic c Q ch k]
  | .hyp _ :: k => by funext ρ ds L; simp only [xit]; rw [xit_panic c Q ch k]
theorem X.ret (h : Q .ret ρ ds L) : X c (.code .ret :: k) Q ρ ds L := fun w hw => wpIn_ret ⟨ρ, ds, L, rfl, hw, by rw [xit_ret]; exact h⟩
def exitK : Nat → List KI → Option (List KI)
  | _, [] => none
  | id, .blk id' :: k => cond (Nat.beq id' id) (some k) (exitK id k)
  | id, .code _ :: k => exitK id k
  | id, .scp :: k => exitK id k
  | id, .hyp _ :: k => exitK id k
theorem xit_exit (c : Cx) (Q : Po) (id : Nat) : ∀ k, xit c Q k (.exit id) = (match exitK id k with | some k' => X c k' Q | none => Q (.exit id))
  | [] => rfl
  | .code _ :: k => by funext ρ ds L; simp only [xit, exitK]; rw [xit_exit c Q id k]
  | .blk id' :: k => by
    funext ρ ds L
    simp only [xit, exitK]
    by_cases h : id = id'
    · subst h; simp [X]
    · rw [if_neg h, beq_ne (Ne.symm h), xit_exit c Q id k]; rfl
  | .scp :: k => by funext ρ ds L; simp only [xit, exitK]; rw [xit_exit c Q id k]
  | .hyp _ :: k => by funext ρ ds L; simp only [xit, exitK]; rw [xit_exit c Q id k]
theorem X.exit {id : Nat} {k' : List KI} (hk : exitK id k = some k') (h : X c k' Q ρ ds L) : X c (.code (.exit id) :: k) Q ρ ds L :=
  fun w hw => wpIn_exit ⟨ρ, ds, L, rfl, hw, by rw [xit_exit, hk]; exact h⟩
/-- Out of a round: by an exit that nothing within the round catches. -/
theorem X.exit_out {id : Nat} (hk : exitK id k = none) (h : Q (.exit id) ρ ds L) : X c (.code (.exit id) :: k) Q ρ ds L :=
  fun w hw => wpIn_exit ⟨ρ, ds, L, rfl, hw, by rw [xit_exit, hk]; exact h⟩
theorem X.scope {x : Code} (hr : c.rd = none) (h : X c (.code x :: .scp :: k) Q ρ ds L) : X c (.code (.scope x) :: k) Q ρ ds L := by
  intro w hw
  have h1 := h w hw
  rw [hr, FR_none, wpIn_wide] at h1 ⊢
  refine wp_scope_straight (wp_mono h1 ?_)
  rintro e a w' ⟨ρ', ds', L', rfl, hst, hq⟩
  cases e with
  | goto l => exact hq
  | _ => exact ⟨ρ', ds', L', rfl, hst, hq⟩
/-- What is no longer of use is dropped. -/
theorem X.drop {x : Code} {L' : List Ent} (hs : L'.Sublist L) (h : X c (.code x :: k) Q ρ ds L') : X c (.code x :: k) Q ρ ds L := fun w hw => h w (hw.sub hs)
/-- What stands in other slots is forgotten. -/
theorem X.forget {l : List (Nat × Value)} (hh : Has ρ l) (h : ∀ base, X c k Q (updL base l) ds L) : X c k Q ρ ds L := by
  have := h ρ; rwa [hh.eq] at this
/-- A way through some code, with a word of the prover's on what it comes to; from there on. -/
theorem X.cut {x : Code} (I : Ko) (h1 : X c (.code x :: .hyp I :: k) Q ρ ds L) (h2 : ∀ ρ ds L, I ρ ds L → X c k Q ρ ds L) : X c (.code x :: k) Q ρ ds L :=
  W.mono (Q := xit c Q (.hyp I :: k)) h1 fun e ρ' ds' L' hq => by
    cases e with
    | normal => exact h2 _ _ _ hq
    | _ => exact hq
theorem X.loop {γ : Type} {x : Code} (I : γ → Env → List Ent → Prop) (μ : γ → Nat) (g0 : γ) (h0 : ∃ L0, L0.Sublist L ∧ I g0 ρ L0)
    (hr : ∀ g ρ L, I g ρ L → X c (.code x :: .hyp (fun ρ' ds' L' => ds' = ds ∧ ∃ g', μ g' < μ g ∧ ∃ L'', L''.Sublist L' ∧ I g' ρ' L'') :: k) Q ρ ds L) : X c (.code (.loop x) :: k) Q ρ ds L := by
  intro w hw b kk cs hro hb hroom
  have key : ∀ m g ρ L w, μ g = m → I g ρ L → St c.w0 c.S w L →
      ∃ e a' w', lift c (xit c Q k) e a' w' ∧ ArrivesIn (Machine.fenced c.P (FR c.rd)) c.P (lone (b.atR (act c.n ρ ds) (.code x :: .inLoop x :: kk)) cs w) b kk cs e a' w' := by
    intro m
    induction m using Nat.strongRecOn with
    | _ m ih =>
      intro g ρ L w hm hI hst
      obtain ⟨e, a₁, w₁, hq, harr⟩ := hr g ρ L hI w hst b (.inLoop x :: kk) cs hro hb hroom
      obtain ⟨ρ1, ds1, L1, rfl, hst1, hq⟩ := hq
      cases e with
      | normal =>
        obtain ⟨rfl, g', hlt, L'', hsub, hI'⟩ := hq
        obtain ⟨e₂, a₂, w₂, hq₂, harr₂⟩ := ih (μ g') (hm ▸ hlt) g' ρ1 L'' w₁ rfl hI' (hst1.sub hsub)
        exact ⟨e₂, a₂, w₂, hq₂, .of_steps (StepsIn.trans harr (.one (fenced_calm hb hroom rfl) stepR_inLoop)) harr₂⟩
      | exit id => exact ⟨_, _, w₁, ⟨ρ1, ds1, L1, rfl, hst1, hq⟩, .pass (x := .inLoop x) rfl (fun _ _ => .inl (by simp)) harr⟩
      | goto l => exact ⟨_, _, w₁, ⟨ρ1, ds1, L1, rfl, hst1, hq⟩, .pass (x := .inLoop x) rfl (fun _ _ => .inl (by simp)) harr⟩
      | ret => exact ⟨_, _, w₁, ⟨ρ1, ds1, L1, rfl, hst1, hq⟩, .pass (x := .inLoop x) rfl (fun _ _ => .inl (by simp)) harr⟩
      | panic ch => exact ⟨_, _, w₁, ⟨ρ1, ds1, L1, rfl, hst1, hq⟩, .pass (x := .inLoop x) rfl (fun _ _ => .inl (by simp)) harr⟩
      | outgrown => exact ⟨_, _, w₁, ⟨ρ1, ds1, L1, rfl, hst1, hq⟩, .pass (x := .inLoop x) rfl (fun _ _ => .inl (by simp)) harr⟩
  obtain ⟨L0, hs0, h0⟩ := h0
  obtain ⟨e, a', w', hq, harr⟩ := key _ g0 ρ L0 w rfl h0 (hw.sub hs0)
  exact ⟨e, a', w', hq, .of_steps (.one (fenced_calm hb hroom rfl) stepR_loop) harr⟩
end

/-! ### 4. The operations of a region, one behind the other -/
def nrm (K : Ko) (Qp : Po) : Po := fun e => match e with | .normal => K | e => Qp e
/-- The operations of a region. 'c.q': the region draws its order: no operation may change what is known. -/
def RL (c : Cx) (ol l : List Oper) (K : Ko) (Qp : Po) (ρ : Env) (ds : Ds) (L : List Ent) : Prop :=
  match c.q with
  | false => ∀ w, St c.w0 c.S w L → wpListIn (FR c.rd) 0 c.P ol.toArray (lift c (nrm K Qp)) l (act c.n ρ ds) w
  | true => wpQuiet c.P ol.toArray (fun w => St c.w0 c.S w L) (fun a => ∃ ρ', a = act c.n ρ' ds ∧ K ρ' ds L) l (act c.n ρ ds)
theorem RL_f {c : Cx} (hq : c.q = false) (ol l : List Oper) (K : Ko) (Qp : Po) (ρ : Env) (ds : Ds) (L : List Ent) : RL c ol l K Qp ρ ds L = ∀ w, St c.w0 c.S w L → wpListIn (FR c.rd) 0 c.P ol.toArray (lift c (nrm K Qp)) l (act c.n ρ ds) w := by
  unfold RL; rw [hq]
theorem RL_t {c : Cx} (hq : c.q = true) (ol l : List Oper) (K : Ko) (Qp : Po) (ρ : Env) (ds : Ds) (L : List Ent) : RL c ol l K Qp ρ ds L = wpQuiet c.P ol.toArray (fun w => St c.w0 c.S w L) (fun a => ∃ ρ', a = act c.n ρ' ds ∧ K ρ' ds L) l (act c.n ρ ds) := by
  unfold RL; rw [hq]
def notDefer : Op → Bool
  | .defer _ => false
  | _ => true
section
variable {c : Cx} {k : List KI} {Q Qp : Po} {K : Ko} {ρ : Env} {ds : Ds} {L : List Ent} {ol rest : List Oper} {o : Oper}
theorem nrm_xit (c : Cx) (Q : Po) (k : List KI) : nrm (X c k Q) (xit c Q k) = xit c Q k := by funext e; cases e <;> rfl
theorem X.region {id : Nat} {l : List Oper} (hq : c.q = false) (h : RL c l l (X c k Q) (xit c Q k) ρ ds L) : X c (.code (.region id l.toArray false) :: k) Q ρ ds L := by
  intro w hw
  rw [RL_f hq] at h
  have h1 := h w hw
  rw [nrm_xit] at h1
  exact wpIn_region_lit h1
/-- A region that draws its order: one walk in the text's order. -/
theorem X.draw {P : Program} {n : Nat} {w0 : World} {S : List Nat} {id : Nat} {l : List Oper} (hm : P.follows .mixedOrders = true) (hB : Region.lexB .any l.toArray = true)
    (h : RL ⟨P, none, n, w0, S, true⟩ l l (X ⟨P, none, n, w0, S, false⟩ k Q) (xit ⟨P, none, n, w0, S, false⟩ Q k) ρ ds L) : X ⟨P, none, n, w0, S, false⟩ (.code (.region id l.toArray true) :: k) Q ρ ds L := by
  intro w hw
  rw [RL_t rfl] at h
  show (Code.region id l.toArray true).wpIn (FR none) 0 P _ _ w
  rw [FR_none, wpIn_wide]
  refine wp_region_quiet (C := fun w => St w0 S w L) hm hB (hw.drawn _) ?_
  have mono : ∀ (l' : List Oper) (a : Act) (K1 K2 : Act → Prop), (∀ a, K1 a → K2 a) → wpQuiet P l.toArray (fun w => St w0 S w L) K1 l' a → wpQuiet P l.toArray (fun w => St w0 S w L) K2 l' a := by
    intro l'
    induction l' with
    | nil => intro a K1 K2 hk h; exact hk _ h
    | cons o rest ih =>
      intro a K1 K2 hk h
      simp only [wpQuiet] at h ⊢
      split
      · rename_i hw; rw [if_pos hw] at h; exact Oper.quiet_mono (fun a ha => ih a K1 K2 hk ha) h
      · rename_i hw; rw [if_neg hw] at h; exact ih _ K1 K2 hk h
  refine mono _ _ _ _ ?_ (by simpa using h)
  rintro a ⟨ρ', rfl, hK⟩ w' hw'
  exact ⟨ρ', ds, L, rfl, hw', hK⟩
theorem RL.nil (h : K ρ ds L) : RL c ol [] K Qp ρ ds L := by
  cases hq : c.q with
  | false => rw [RL_f hq]; exact fun w hw => ⟨ρ, ds, L, rfl, hw, h⟩
  | true => rw [RL_t hq]; exact ⟨ρ, rfl, h⟩
theorem semAt_nd {rd : Option Nat} {f : Operand → Value} (o : Oper) (hd : notDefer o.op = true) : o.semAt rd f = execOp f o := Oper.semAt_eq rd f o (fun c hc => by rw [hc] at hd; cases hd)
theorem RL.step (hq : c.q = false) (hw : wantE c.n ol ρ o = true) (hd : notDefer o.op = true)
    (h : ∀ w, St c.w0 c.S w L → ∃ v w' L', ((execOp (evE c.n ρ) o).run c.P w = .ok (.value v) w' ∨ ((execOp (evE c.n ρ) o).run c.P w = .ok .skip w' ∧ v = undef)) ∧ St c.w0 c.S w' L' ∧ RL c ol rest K Qp (updO ρ o.dst v) ds L') :
    RL c ol (o :: rest) K Qp ρ ds L := by
  rw [RL_f hq]
  intro w hst
  obtain ⟨v, w', L', hr, hst', hrest⟩ := h w hst
  rw [RL_f hq] at hrest
  simp only [wpListIn]
  rw [want_act, hw, if_pos rfl]
  refine ⟨fun f _ => FR_fn _ _, ?_⟩
  rw [semAt_nd o hd, act_eval]
  have h2 := hrest w' hst'
  rcases hr with hr | ⟨hr, rfl⟩
  · rw [hr]; simp only [Oper.uponIn]; rw [act_put]; exact h2
  · rw [hr]; simp only [Oper.uponIn]; rw [act_put]; exact h2
/-- An operation that reads: it yields a value and leaves the world. -/
theorem RL.read {v : Value} (hw : wantE c.n ol ρ o = true) (hd : notDefer o.op = true) (h : ∀ w, St c.w0 c.S w L → (execOp (evE c.n ρ) o).run c.P w = .ok (.value v) w) (hr : RL c ol rest K Qp (updO ρ o.dst v) ds L) :
    RL c ol (o :: rest) K Qp ρ ds L := by
  cases hq : c.q with
  | false => exact RL.step hq hw hd fun w hst => ⟨v, w, L, .inl (h w hst), hst, hr⟩
  | true =>
    rw [RL_t hq] at hr ⊢
    simp only [wpQuiet]
    rw [want_act, hw, if_pos rfl]
    refine ⟨v, fun w hst => ?_, ?_⟩
    · unfold Oper.quietAt
      rw [act_eval, h w hst]
      exact ⟨rfl, rfl⟩
    · rw [act_put]; exact hr
theorem RL.pure {v : Value} (hw : wantE c.n ol ρ o = true) (hd : notDefer o.op = true) (h : ∀ w, (execOp (evE c.n ρ) o).run c.P w = .ok (.value v) w) (hr : RL c ol rest K Qp (updO ρ o.dst v) ds L) :
    RL c ol (o :: rest) K Qp ρ ds L := RL.read hw hd (fun w _ => h w) hr
theorem RL.skip (hw : wantE c.n ol ρ o = false) (hr : RL c ol rest K Qp (updO ρ o.dst undef) ds L) : RL c ol (o :: rest) K Qp ρ ds L := by
  cases hq : c.q with
  | false =>
    rw [RL_f hq] at hr ⊢
    intro w hst
    simp only [wpListIn]
    rw [want_act, hw, if_neg (by simp)]
    refine ⟨fun f _ => FR_fn _ _, ?_⟩
    rw [act_put]
    exact hr w hst
  | true =>
    rw [RL_t hq] at hr ⊢
    simp only [wpQuiet]
    rw [want_act, hw, if_neg (by simp), act_put]
    exact hr
theorem RL.panics {v : Value} {w1 : World → World} (hq : c.q = false) (hw : wantE c.n ol ρ o = true) (hd : notDefer o.op = true) (h : ∀ w, St c.w0 c.S w L → ∃ w' L', (execOp (evE c.n ρ) o).run c.P w = .halt (.panic v) w' ∧ St c.w0 c.S w' L' ∧ Qp (.panic [{ v, recovered := false }]) ρ ds L') :
    RL c ol (o :: rest) K Qp ρ ds L := by
  rw [RL_f hq]
  intro w hst
  obtain ⟨w', L', hr, hst', hq⟩ := h w hst
  simp only [wpListIn]
  rw [want_act, hw, if_pos rfl]
  refine ⟨fun f _ => FR_fn _ _, ?_⟩
  rw [semAt_nd o hd, act_eval, hr]
  exact ⟨ρ, ds, L', rfl, hst', hq⟩
/-- A call that goes into a function. -/
theorem RL.enter {f : FuncId} {args : Array Value} (hq : c.q = false) (hw : wantE c.n ol ρ o = true) (hd : notDefer o.op = true) (hr : ∀ w, (execOp (evE c.n ρ) o).run c.P w = .ok (.enter f args) w)
    (h : ∀ w, St c.w0 c.S w L → CallsIn (FR none) 0 c.P f args w fun e w' => ∃ L', St c.w0 c.S w' L' ∧
      match e with | .returned v => RL c ol rest K Qp (updO ρ o.dst v) ds L' | .panicked ch => Qp (.panic ch) ρ ds L' | .outgrown => False) :
    RL c ol (o :: rest) K Qp ρ ds L := by
  rw [RL_f hq]
  intro w hst
  simp only [wpListIn]
  rw [want_act, hw, if_pos rfl]
  refine ⟨fun f _ => FR_fn _ _, ?_⟩
  rw [semAt_nd o hd, act_eval, hr w]
  refine ⟨FR_depth _, ?_⟩
  simp only [RL_f hq] at h
  have h1 : CallsIn (FR c.rd) 0 c.P f args w fun e w' => ∃ L', St c.w0 c.S w' L' ∧
      match e with | .returned v => ∀ w, St c.w0 c.S w L' → wpListIn (FR c.rd) 0 c.P ol.toArray (lift c (nrm K Qp)) rest (act c.n (updO ρ o.dst v) ds) w | .panicked ch => Qp (.panic ch) ρ ds L' | .outgrown => False := h w hst
  refine h1.mono ?_
  rintro e w' ⟨L', hst', hq⟩
  cases e with
  | returned v => show wpListIn _ _ _ _ _ rest ((act c.n ρ ds).put o.dst v) w'; rw [act_put]; exact hq w' hst'
  | panicked ch => exact ⟨ρ, ds, L', rfl, hst', hq⟩
  | outgrown => exact hq.elim
/-- A call of yield: a round of the loop that is ranged over this function. -/
theorem RL.round {l fn : Nat} {tmps : Array Value} {assign body : Code} (hq : c.q = false) (hw : wantE c.n ol ρ o = true) (hd : notDefer o.op = true)
    (h : ∀ w, St c.w0 c.S w L → ∃ l fn tmps assign body, (execOp (evE c.n ρ) o).run c.P w = .ok (.round l fn tmps assign body) w ∧ RoundIn (FR none) 0 c.P l fn tmps assign body w fun e w' => ∃ v L', e = .returned v ∧ St c.w0 c.S w' L' ∧ RL c ol rest K Qp (updO ρ o.dst v) ds L') :
    RL c ol (o :: rest) K Qp ρ ds L := by
  rw [RL_f hq]
  intro w hst
  obtain ⟨l, fn, tmps, assign, body, hr, hR⟩ := h w hst
  simp only [wpListIn]
  rw [want_act, hw, if_pos rfl]
  refine ⟨fun f _ => FR_fn _ _, ?_⟩
  rw [semAt_nd o hd, act_eval, hr]
  refine ⟨FR_depth _, ?_⟩
  have h1 : RoundIn (FR c.rd) 0 c.P l fn tmps assign body w fun e w' => ∃ v L', e = .returned v ∧ St c.w0 c.S w' L' ∧ RL c ol rest K Qp (updO ρ o.dst v) ds L' := hR
  simp only [RL_f hq] at h1
  refine h1.mono ?_
  rintro e w' ⟨v, L', rfl, hst', hq⟩
  show wpListIn _ _ _ _ _ rest ((act c.n ρ ds).put o.dst v) w'
  rw [act_put]; exact hq w' hst'
end

/-- Goes on with the value, its head laid open. -/
def withV (v : Value) (k : Value → Prop) : Prop :=
  match v with
  | .bool b => k (.bool b)
  | .int kk n => k (.int kk n)
  | .float kk n => k (.float kk n)
  | .complex kk a b => k (.complex kk a b)
  | .string s => k (.string s)
  | .pointer a => k (.pointer a)
  | .slice a n c => k (.slice a n c)
  | .map r => k (.map r)
  | .chan r => k (.chan r)
  | .func f a b => k (.func f a b)
  | .nilFunc => k .nilFunc
  | .iface t x => k (.iface t x)
  | .nilIface => k .nilIface
  | .agg cs => k (.agg cs)
  | .tuple vs => k (.tuple vs)
theorem withV_eq (v : Value) (k : Value → Prop) : withV v k = k v := by cases v <;> rfl

/-! ### 5. Functions -/
def Ctr (P : Program) (f : FuncId) (args : List Value) (w : World) (Lp : List Ent) (R : Value → List Ent → Prop) : Prop :=
  CallsIn (FR none) 0 P f args.toArray w fun e w' => ∃ v L', e = .returned v ∧ St w (keys Lp) w' L' ∧ R v L'
theorem Ctr.mono {P : Program} {f : FuncId} {args : List Value} {w : World} {Lp : List Ent} {R R' : Value → List Ent → Prop} (h : Ctr P f args w Lp R) (hr : ∀ v L, R v L → R' v L) : Ctr P f args w Lp R' :=
  CallsIn.mono h fun _ _ ⟨v, L', h1, h2, h3⟩ => ⟨v, L', h1, h2, hr _ _ h3⟩
def argsE (n : Nat) (ρ : Env) (xs : Array Operand) : List Value := xs.toList.map (evE n ρ)
/-- How an activation of fn may be left: with what R says. -/
def RetQ (c : Cx) (fn : Func) (R : Value → List Ent → Prop) : Po := fun e ρ ds L =>
  match e with
  | .normal | .ret => ∀ w, St c.w0 c.S w L → LeavesInM (FR none) 0 c.P fn (act c.n ρ ds).tmps (fun e w' => ∃ v L', e = .returned v ∧ St c.w0 c.S w' L' ∧ R v L') ds .returning w
  | .panic ch => ∀ w, St c.w0 c.S w L → LeavesInM (FR none) 0 c.P fn (act c.n ρ ds).tmps (fun e w' => ∃ v L', e = .returned v ∧ St c.w0 c.S w' L' ∧ R v L') ds (.panicking ch) w
  | _ => False
theorem Ctr.intro {P : Program} {f : FuncId} {fn : Func} {x : Code} {args : List Value} {w : World} {Lp : List Ent} {R : Value → List Ent → Prop} {n : Nat} (hf : P.funcs[f]? = some fn) (hb : fn.body = some x)
    (hn : fn.ntmps = n) (ha : args.length ≤ n) (hown : ∀ p ∈ Lp, w.heap[p.1]? = some p.2) (hnd : (keys Lp).Nodup) (h : X ⟨P, none, n, w, keys Lp, false⟩ [.code x] (RetQ ⟨P, none, n, w, keys Lp, false⟩ fn R) (envOf args) [] Lp) : Ctr P f args w Lp R := by
  refine callsIn_of_wp_marks (F := FR none) (n := 0) hf hb trivial ?_ rfl
  rw [hn, act_init, Nat.max_eq_left ha]
  refine wpIn_mono (h w (St.init hown hnd)) ?_
  rintro e a w' ⟨ρ, ds, L, rfl, hst, hq⟩
  cases e with
  | normal => exact hq w' hst
  | ret => exact hq w' hst
  | panic ch => exact hq w' hst
  | exit _ => exact hq.elim
  | goto _ => exact hq.elim
  | outgrown => exact hq.elim
theorem Ctr.intro0 {P : Program} {f : FuncId} {fn : Func} {x : Code} {args : List Value} {w : World} {R : Value → List Ent → Prop} {n : Nat} (hf : P.funcs[f]? = some fn) (hb : fn.body = some x)
    (hn : fn.ntmps = n) (ha : args.length ≤ n) (h : X ⟨P, none, n, w, [], false⟩ [.code x] (RetQ ⟨P, none, n, w, [], false⟩ fn R) (envOf args) [] []) : Ctr P f args w [] R :=
  Ctr.intro hf hb hn ha (fun _ h => by cases h) List.nodup_nil h
theorem Ctr.calls {P : Program} {f : FuncId} {args : List Value} {w : World} {R : Value → List Ent → Prop} (h : Ctr P f args w [] R) :
    Calls P f args.toArray w fun e w' => ∃ v L', e = .returned v ∧ St w [] w' L' ∧ R v L' := callsIn_wide.1 h
section
variable {c : Cx} {fn : Func} {R : Value → List Ent → Prop} {ρ : Env} {L : List Ent}
theorem ret_of {v : Value} (hv : ∀ w, St c.w0 c.S w L → (results fn (act c.n ρ []).tmps).run c.P w = .ok v w) (h : R v L) : RetQ c fn R .ret ρ [] L :=
  fun w hw => ⟨v, hv w hw, v, L, rfl, hw, h⟩
theorem ret_of_n {v : Value} (hv : ∀ w, St c.w0 c.S w L → (results fn (act c.n ρ []).tmps).run c.P w = .ok v w) (h : R v L) : RetQ c fn R .normal ρ [] L :=
  fun w hw => ⟨v, hv w hw, v, L, rfl, hw, h⟩
theorem res0 (h : fn.results = #[]) (P : Program) (a : Array Value) (w : World) : (results fn a).run P w = .ok (.tuple #[]) w := by simp [results, h]
theorem res1 {t : Nat} (h : fn.results = #[.tmp t]) (P : Program) (n : Nat) (ρ : Env) (ds : Ds) (w : World) : (results fn (act n ρ ds).tmps).run P w = .ok (evE n ρ (.tmp t)) w := by
  rw [results_tmp h]; rw [act_get]; rfl
theorem res2 {t u : Nat} (h : fn.results = #[.tmp t, .tmp u]) (P : Program) (n : Nat) (ρ : Env) (ds : Ds) (w : World) : (results fn (act n ρ ds).tmps).run P w = .ok (.tuple #[evE n ρ (.tmp t), evE n ρ (.tmp u)]) w := by
  rw [results_tmp2 h]; rw [act_get, act_get]; rfl
theorem res3 {t u s : Nat} (h : fn.results = #[.tmp t, .tmp u, .tmp s]) (P : Program) (n : Nat) (ρ : Env) (ds : Ds) (w : World) : (results fn (act n ρ ds).tmps).run P w = .ok (.tuple #[evE n ρ (.tmp t), evE n ρ (.tmp u), evE n ρ (.tmp s)]) w := by
  have e : ∀ t, (act n ρ ds).tmps[t]?.getD undef = evE n ρ (.tmp t) := fun t => by have := act_get n ρ ds t; simpa [evE] using this
  simp [results, h, e]
theorem ret0 (hr : fn.results = #[]) (h : R (.tuple #[]) L) : RetQ c fn R .ret ρ [] L := ret_of (fun w _ => res0 hr c.P _ w) h
theorem end0 (hr : fn.results = #[]) (h : R (.tuple #[]) L) : RetQ c fn R .normal ρ [] L := ret_of_n (fun w _ => res0 hr c.P _ w) h
theorem ret1 {t : Nat} (hr : fn.results = #[.tmp t]) (h : withV (evE c.n ρ (.tmp t)) fun v => R v L) : RetQ c fn R .ret ρ [] L := ret_of (fun w _ => by rw [res1 hr]) (by rw [withV_eq] at h; exact h)
theorem ret2 {t u : Nat} (hr : fn.results = #[.tmp t, .tmp u]) (h : withV (evE c.n ρ (.tmp t)) fun v1 => withV (evE c.n ρ (.tmp u)) fun v2 => R (.tuple #[v1, v2]) L) : RetQ c fn R .ret ρ [] L := ret_of (fun w _ => by rw [res2 hr]) (by simp only [withV_eq] at h; exact h)
theorem ret3 {t u s : Nat} (hr : fn.results = #[.tmp t, .tmp u, .tmp s]) (h : withV (evE c.n ρ (.tmp t)) fun v1 => withV (evE c.n ρ (.tmp u)) fun v2 => withV (evE c.n ρ (.tmp s)) fun v3 => R (.tuple #[v1, v2, v3]) L) : RetQ c fn R .ret ρ [] L := ret_of (fun w _ => by rw [res3 hr]) (by simp only [withV_eq] at h; exact h)
end

end Go.Proofs.YtgmlbaffghogaaaGreatDoor
