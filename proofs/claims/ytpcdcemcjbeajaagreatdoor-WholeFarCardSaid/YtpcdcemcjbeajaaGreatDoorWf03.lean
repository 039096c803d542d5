/- WholeFar: Ev. -/
import Derived.Test.YtpcdcemcjbeajaaGreatDoorWf02
set_option linter.unusedVariables false
set_option linter.unusedSimpArgs false
namespace Go.Proofs.YtpcdcemcjbeajaaGreatDoor
open Go.RowKit
inductive D4 | a | b | c | d
structure N4 (α : Type) where
  a : α
  b : α
  c : α
  d : α
section
variable {α : Type}
noncomputable def sel (k : D4) (t : N4 α) : α := D4.rec (motive := fun _ => N4 α → α) N4.a N4.b N4.c N4.d k t
noncomputable def updA (f : α → α) (t : N4 α) : N4 α := N4.rec (motive := fun _ => N4 α) (fun a b c d => ⟨f a, b, c, d⟩) t
noncomputable def updB (f : α → α) (t : N4 α) : N4 α := N4.rec (motive := fun _ => N4 α) (fun a b c d => ⟨a, f b, c, d⟩) t
noncomputable def updC (f : α → α) (t : N4 α) : N4 α := N4.rec (motive := fun _ => N4 α) (fun a b c d => ⟨a, b, f c, d⟩) t
noncomputable def updD (f : α → α) (t : N4 α) : N4 α := N4.rec (motive := fun _ => N4 α) (fun a b c d => ⟨a, b, c, f d⟩) t
noncomputable def updN (k : D4) (f : α → α) (t : N4 α) : N4 α := D4.rec (motive := fun _ => (α → α) → N4 α → N4 α) updA updB updC updD k f t
theorem sel_same (k : D4) (f : α → α) (t : N4 α) : sel k (updN k f t) = f (sel k t) := by cases k <;> rfl
theorem sel_ne {j k : D4} (h : j ≠ k) (f : α → α) (t : N4 α) : sel j (updN k f t) = sel j t := by cases j <;> cases k <;> first | rfl | exact absurd rfl h
end
abbrev T4 (α : Type) := N4 (N4 (N4 (N4 α)))
structure K4 where
  p : D4
  q : D4
  r : D4
  s : D4
section
variable {α : Type}
noncomputable def get4 (k : K4) (t : T4 α) : α := K4.rec (motive := fun _ => α) (fun p q r s => sel p (sel q (sel r (sel s t)))) k
noncomputable def mod4 (k : K4) (f : α → α) (t : T4 α) : T4 α := K4.rec (motive := fun _ => T4 α) (fun p q r s => updN s (updN r (updN q (updN p f))) t) k
theorem get4_same (k : K4) (f : α → α) (t : T4 α) : get4 k (mod4 k f t) = f (get4 k t) := by
  obtain ⟨p, q, r, s⟩ := k
  show sel p (sel q (sel r (sel s (updN s (updN r (updN q (updN p f))) t)))) = f (sel p (sel q (sel r (sel s t))))
  simp only [sel_same]
theorem get4_ne {j k : K4} (h : j ≠ k) (f : α → α) (t : T4 α) : get4 j (mod4 k f t) = get4 j t := by
  obtain ⟨p, q, r, s⟩ := k
  obtain ⟨p', q', r', s'⟩ := j
  show sel p' (sel q' (sel r' (sel s' (updN s (updN r (updN q (updN p f))) t)))) = sel p' (sel q' (sel r' (sel s' t)))
  by_cases e1 : s' = s
  · subst e1
    rw [sel_same]
    by_cases e2 : r' = r
    · subst e2
      rw [sel_same]
      by_cases e3 : q' = q
      · subst e3
        rw [sel_same]
        by_cases e4 : p' = p
        · subst e4; exact absurd rfl h
        · rw [sel_ne e4]
      · rw [sel_ne e3]
    · rw [sel_ne e2]
  · rw [sel_ne e1]
noncomputable def n4 (x : α) : N4 α := ⟨x, x, x, x⟩
noncomputable def emp4 (x : α) : T4 α := n4 (n4 (n4 (n4 x)))
theorem get4_emp (k : K4) (x : α) : get4 k (emp4 x) = x := by
  obtain ⟨p, q, r, s⟩ := k
  cases p <;> cases q <;> cases r <;> cases s <;> rfl
end
noncomputable def dg (n : Nat) : D4 := Nat.casesOn (motive := fun _ => D4) (Nat.mod n 4) .a (fun n => Nat.casesOn (motive := fun _ => D4) n .b (fun n => Nat.casesOn (motive := fun _ => D4) n .c (fun _ => .d)))
noncomputable def D4.val (k : D4) : Nat := D4.rec (motive := fun _ => Nat) 0 1 2 3 k
theorem dg_val (n : Nat) : (dg n).val = n % 4 := by
  have h4 : n % 4 < 4 := Nat.mod_lt _ (by decide)
  have : n % 4 = 0 ∨ n % 4 = 1 ∨ n % 4 = 2 ∨ n % 4 = 3 := by omega
  unfold dg
  rw [show Nat.mod n 4 = n % 4 from rfl]
  rcases this with h | h | h | h <;> rw [h] <;> rfl
noncomputable def slotK (n : Nat) : K4 := ⟨dg n, dg (Nat.div n 4), dg (Nat.div n 16), dg (Nat.div n 64)⟩
noncomputable def K4.val (k : K4) : Nat := Nat.add k.p.val (Nat.mul 4 (Nat.add k.q.val (Nat.mul 4 (Nat.add k.r.val (Nat.mul 4 k.s.val)))))
theorem slotK_val {n : Nat} (h : n < 256) : (slotK n).val = n := by
  show (dg n).val + 4 * ((dg (n / 4)).val + 4 * ((dg (n / 16)).val + 4 * (dg (n / 64)).val)) = n
  simp only [dg_val]
  omega
theorem slotK_inj {n m : Nat} (hn : n < 256) (hm : m < 256) (h : slotK n = slotK m) : n = m := by
  have := congrArg K4.val h
  rwa [slotK_val hn, slotK_val hm] at this
structure Nm where
  lo : K4
  hi : K4
noncomputable def Nm.val (n : Nm) : Nat := Nat.add n.lo.val (Nat.mul 256 n.hi.val)
theorem D4.val_lt (k : D4) : k.val < 4 := by cases k <;> decide
theorem D4.val_inj {j k : D4} (h : j.val = k.val) : j = k := by cases j <;> cases k <;> first | rfl | cases h
theorem K4.val_eq (k : K4) : k.val = k.p.val + 4 * (k.q.val + 4 * (k.r.val + 4 * k.s.val)) := rfl
theorem K4.val_lt (k : K4) : k.val < 256 := by
  have := k.p.val_lt; have := k.q.val_lt; have := k.r.val_lt; have := k.s.val_lt
  rw [K4.val_eq]; omega
theorem K4.val_inj {j k : K4} (h : j.val = k.val) : j = k := by
  rw [K4.val_eq, K4.val_eq] at h
  have := k.p.val_lt; have := k.q.val_lt; have := k.r.val_lt; have := k.s.val_lt
  have := j.p.val_lt; have := j.q.val_lt; have := j.r.val_lt; have := j.s.val_lt
  have h1 : j.p = k.p := D4.val_inj (by omega)
  have h2 : j.q = k.q := D4.val_inj (by omega)
  have h3 : j.r = k.r := D4.val_inj (by omega)
  have h4 : j.s = k.s := D4.val_inj (by omega)
  cases j; cases k; simp_all
theorem Nm.val_eq (n : Nm) : n.val = n.lo.val + 256 * n.hi.val := rfl
theorem Nm.val_inj {n m : Nm} (h : n.val = m.val) : n = m := by
  rw [Nm.val_eq, Nm.val_eq] at h
  have := n.lo.val_lt; have := m.lo.val_lt
  have h1 : n.lo = m.lo := K4.val_inj (by omega)
  have h2 : n.hi = m.hi := K4.val_inj (by omega)
  cases n; cases m; simp_all
noncomputable def nmEq (n m : Nm) : Bool := Nat.beq n.val m.val
theorem nmEq_t {n m : Nm} (h : nmEq n m = true) : n = m := Nm.val_inj (Nat.eq_of_beq_eq_true h)
theorem nmEq_f {n m : Nm} (h : nmEq n m = false) : n ≠ m := by intro e; subst e; simp [nmEq] at h
noncomputable def suc4 {β : Type} (k : K4) (next : K4 → β) (over : K4 → β) : β := K4.rec (motive := fun _ => β) (fun p q r s =>
  D4.rec (motive := fun _ => β) (next ⟨.b, q, r, s⟩) (next ⟨.c, q, r, s⟩) (next ⟨.d, q, r, s⟩)
    (D4.rec (motive := fun _ => β) (next ⟨.a, .b, r, s⟩) (next ⟨.a, .c, r, s⟩) (next ⟨.a, .d, r, s⟩)
      (D4.rec (motive := fun _ => β) (next ⟨.a, .a, .b, s⟩) (next ⟨.a, .a, .c, s⟩) (next ⟨.a, .a, .d, s⟩)
        (D4.rec (motive := fun _ => β) (next ⟨.a, .a, .a, .b⟩) (next ⟨.a, .a, .a, .c⟩) (next ⟨.a, .a, .a, .d⟩) (over ⟨.a, .a, .a, .a⟩) s) r) q) p) k
noncomputable def zero4 : K4 := ⟨.a, .a, .a, .a⟩
noncomputable def suc8 {β : Type} (n : Nm) (next : Nm → β) (none : β) : β := Nm.rec (motive := fun _ => β) (fun lo hi => suc4 lo (fun lo => next ⟨lo, hi⟩) (fun lo => suc4 hi (fun hi => next ⟨lo, hi⟩) (fun _ => none))) n
theorem suc4_eq {β : Type} (k : K4) (next over : K4 → β) : (∃ k', k'.val = k.val + 1 ∧ suc4 k next over = next k') ∨ (k.val = 255 ∧ suc4 k next over = over zero4) := by
  obtain ⟨p, q, r, s⟩ := k
  cases p <;> first | exact .inl ⟨_, (by show _ + _ = _ + _ + 1; simp only [D4.val]; omega), rfl⟩ | (cases q <;> first | exact .inl ⟨_, (by show _ + _ = _ + _ + 1; simp only [D4.val]; omega), rfl⟩ | (cases r <;> first | exact .inl ⟨_, (by show _ + _ = _ + _ + 1; simp only [D4.val]; omega), rfl⟩ | (cases s <;> first | exact .inl ⟨_, rfl, rfl⟩ | exact .inr ⟨rfl, rfl⟩)))
theorem suc8_eq {β : Type} (n : Nm) (next : Nm → β) (none : β) : (∃ n', n'.val = n.val + 1 ∧ suc8 n next none = next n') ∨ suc8 n next none = none := by
  rcases suc4_eq n.lo (fun lo => next ⟨lo, n.hi⟩) (fun lo => suc4 n.hi (fun hi => next ⟨lo, hi⟩) (fun _ => none)) with ⟨k, h1, h2⟩ | ⟨h1, h2⟩
  · exact .inl ⟨⟨k, n.hi⟩, by rw [Nm.val_eq, Nm.val_eq]; simp only; omega, h2⟩
  · rcases suc4_eq n.hi (fun hi => next ⟨zero4, hi⟩) (fun _ => none) with ⟨k, h3, h4⟩ | ⟨_, h4⟩
    · exact .inl ⟨⟨zero4, k⟩, by rw [Nm.val_eq, Nm.val_eq]; simp only [h3, h1]; show 0 + 256 * (n.hi.val + 1) = 255 + 256 * n.hi.val + 1; omega, h2.trans h4⟩
    · exact .inr (h2.trans h4)
abbrev T8 (α : Type) := T4 (T4 α)
section
variable {α : Type}
noncomputable def get8 (n : Nm) (t : T8 α) : α := Nm.rec (motive := fun _ => α) (fun lo hi => get4 lo (get4 hi t)) n
noncomputable def set8 (n : Nm) (x : α) (t : T8 α) : T8 α := Nm.rec (motive := fun _ => T8 α) (fun lo hi => mod4 hi (mod4 lo (fun _ => x)) t) n
theorem get8_same (n : Nm) (x : α) (t : T8 α) : get8 n (set8 n x t) = x := by
  obtain ⟨lo, hi⟩ := n
  show get4 lo (get4 hi (mod4 hi (mod4 lo (fun _ => x)) t)) = x
  rw [get4_same, get4_same]
theorem get8_ne {m n : Nm} (h : m ≠ n) (x : α) (t : T8 α) : get8 m (set8 n x t) = get8 m t := by
  obtain ⟨lo, hi⟩ := n
  obtain ⟨lo', hi'⟩ := m
  show get4 lo' (get4 hi' (mod4 hi (mod4 lo (fun _ => x)) t)) = get4 lo' (get4 hi' t)
  by_cases e : hi' = hi
  · subst e
    rw [get4_same]
    by_cases e2 : lo' = lo
    · subst e2; exact absurd rfl h
    · rw [get4_ne e2]
  · rw [get4_ne e]
noncomputable def emp8 (x : α) : T8 α := emp4 (emp4 x)
theorem get8_emp (n : Nm) (x : α) : get8 n (emp8 x) = x := by
  obtain ⟨lo, hi⟩ := n
  show get4 lo (get4 hi (emp4 (emp4 x))) = x
  rw [get4_emp, get4_emp]
end
def All2 {α β : Type} (R : α → β → Prop) : List α → List β → Prop
  | [], [] => True
  | a :: l, b :: m => R a b ∧ All2 R l m
  | _, _ => False
namespace All2
variable {α β : Type} {R R' : α → β → Prop}
theorem length : ∀ {l : List α} {m : List β}, All2 R l m → l.length = m.length
  | [], [], _ => rfl
  | _ :: _, _ :: _, h => by simp [length h.2]
  | [], _ :: _, h => h.elim
  | _ :: _, [], h => h.elim
theorem mono (hr : ∀ a b, R a b → R' a b) : ∀ {l : List α} {m : List β}, All2 R l m → All2 R' l m
  | [], [], _ => trivial
  | _ :: _, _ :: _, h => ⟨hr _ _ h.1, mono hr h.2⟩
  | [], _ :: _, h => h.elim
  | _ :: _, [], h => h.elim
theorem get : ∀ {l : List α} {m : List β}, All2 R l m → ∀ {i : Nat} {a : α}, l[i]? = some a → ∃ b, m[i]? = some b ∧ R a b
  | [], [], _, i, a, h => by simp at h
  | x :: l, y :: m, h2, 0, a, h => by simp at h; subst h; exact ⟨y, rfl, h2.1⟩
  | x :: l, y :: m, h2, i + 1, a, h => by simpa using get h2.2 (by simpa using h)
  | [], _ :: _, h, _, _, _ => h.elim
  | _ :: _, [], h, _, _, _ => h.elim
theorem append : ∀ {l l' : List α} {m m' : List β}, All2 R l m → All2 R l' m' → All2 R (l ++ l') (m ++ m')
  | [], _, [], _, _, h => h
  | _ :: _, _, _ :: _, _, h, h' => ⟨h.1, append h.2 h'⟩
  | [], _, _ :: _, _, h, _ => h.elim
  | _ :: _, _, [], _, h, _ => h.elim
theorem take : ∀ {l : List α} {m : List β} (n : Nat), All2 R l m → All2 R (l.take n) (m.take n)
  | [], [], n, _ => by cases n <;> trivial
  | _ :: _, _ :: _, 0, _ => trivial
  | _ :: _, _ :: _, n + 1, h => ⟨h.1, take n h.2⟩
  | [], _ :: _, _, h => h.elim
  | _ :: _, [], _, h => h.elim
theorem drop : ∀ {l : List α} {m : List β} (n : Nat), All2 R l m → All2 R (l.drop n) (m.drop n)
  | [], [], n, _ => by cases n <;> trivial
  | _ :: _, _ :: _, 0, h => h
  | _ :: _, _ :: _, n + 1, h => drop n h.2
  | [], _ :: _, _, h => h.elim
  | _ :: _, [], _, h => h.elim
end All2
inductive S0
  | pn | sn | se | fn | mn | nn
  | f (g : FuncId) (caps : List (Nm × Nat)) | y (n : Nm) | m (n : Nm) | im (t : TypeId) (n : Nm) | str (s : ByteArray) | par (k : IntKind) (p : Nat) | tk (i : Nat) | os (n : Nm) (l : Nat) | pk (n : Nm) (j sz o : Nat)
inductive S
  | b (x : Bool) | i (k : IntKind) (n : Int) | p (n : Nm) (o : Nat) | l (n : Nm) (o len c : Nat) (r : Bool) | x (e : S0)
inductive A1 | s (x : S) | a (l : List S)
inductive V | s (x : S) | a (l : List S) | t (l : List A1)
inductive Ex | n | x (id : Nat) | r
inductive TbE | bin (op : BinOp) (x y r : S) | cv (k : IntKind) (x r : S) | ix (j l : Nat) | ld (i j sz o : Nat) (cs : List S) | st (i j sz o : Nat) (cs : List S) (i' : Nat) | ap (i l : Nat) (cs : List S) (m e sz i' l' : Nat) | lk (i : Nat) (key : A1) (r : Option A1) | up (i : Nat) (key v : A1) (i' : Nat) | enc (cs bs : List S) | del (i l j j1 e sz i' l' : Nat)
inductive O
  | c (t : TypeId) (r n : Nat) (ks : List S)
  | m (es : List (A1 × A1 × Nat)) (clk : Nat)
  | it (m : Option Nm) (since : Nat) (seen : List Nat) (stepped : Nat)
  | lp (e : Ex) (n : Nat) (env : T4 (Option V)) (ps : List Nat) (asg body : Code)
  | dm
  | op (i : Nat)
  | tb (l : List TbE)
inductive D | mk (n : Nm) | cl (f : FuncId) (caps : List (Nm × Nat))
structure Tk where
  val : Nat → Value
  one : ∀ i, (val i).cells = #[val i] ∧ (val i).oneCell' = true
  ob : Nat → O
structure Sg where
  nm : Nm → Option (Nat × Nat)
  tk : Tk
instance : CoeFun Sg (fun _ => Nm → Option (Nat × Nat)) := ⟨Sg.nm⟩
structure Sg.sub (σ σ' : Sg) : Prop where
  mp : ∀ n x, σ n = some x → σ' n = some x
  tk : σ'.tk = σ.tk
instance {σ σ' : Sg} : CoeFun (Sg.sub σ σ') (fun _ => ∀ n x, σ n = some x → σ' n = some x) := ⟨Sg.sub.mp⟩
theorem Sg.sub.refl (σ : Sg) : Sg.sub σ σ := ⟨fun _ _ h => h, rfl⟩
structure Sg.le (σ σ' : Sg) : Prop where
  keep : Sg.sub σ σ'
  above : ∀ n x, σ' n = some x → σ n = none → ∀ m y, σ m = some y → m.val < n.val
instance {σ σ' : Sg} : CoeFun (Sg.le σ σ') (fun _ => ∀ n x, σ n = some x → σ' n = some x) := ⟨fun h => h.keep.mp⟩
theorem Sg.le.refl (σ : Sg) : Sg.le σ σ := ⟨Sg.sub.refl σ, fun _ _ h h' => by rw [h] at h'; cases h'⟩
theorem Sg.le.trans {σ σ' σ'' : Sg} (h : Sg.le σ σ') (h' : Sg.le σ' σ'') : Sg.le σ σ'' := ⟨⟨fun n x hx => h' n x (h n x hx), h'.keep.tk.trans h.keep.tk⟩, fun n x hx hn m y hm => by
  cases e : σ' n with
  | none => exact h'.above n x hx e m y (h m y hm)
  | some z => exact h.above n z e hn m y hm⟩
def Pl (σ : Sg) (a : Nm × Nat) (v : Value) : Prop := ∃ b c, σ a.1 = some (b, c) ∧ v = .pointer (some ⟨b, a.2, none⟩)
def okX (σ : Sg) : S0 → Value → Prop
  | .pn, v => v = .pointer none
  | .sn, v => v = .slice none 0 0
  | .se, v => ∃ a c, v = .slice (some a) 0 c
  | .fn, v => v = .nilFunc
  | .mn, v => v = .map none
  | .nn, v => v = .nilIface
  | .f g caps, v => ∃ vs, All2 (Pl σ) caps vs ∧ v = .func (.func g) #[] vs.toArray
  | .y n, v => ∃ b c, σ n = some (b, c) ∧ v = .func (.yield b) #[] #[]
  | .m n, v => ∃ b c, σ n = some (b, c) ∧ v = .map (some b)
  | .im t n, v => ∃ b c, σ n = some (b, c) ∧ v = .iface t (.map (some b))
  | .str s, v => v = .string s
  | .par k p, v => ∃ m : Nat, Nat.mod m 2 = p ∧ v = .int k (.ofNat m)
  | .tk i, v => v = σ.tk.val i
  | .os n l, v => ∃ b c m : Nat, σ n = some (b, c) ∧ σ.tk.val l = .int .i64 (m : Int) ∧ m ≤ c ∧ v = .slice (some ⟨b, 0, none⟩) m c
  | .pk n j sz o, v => ∃ b c m : Nat, σ n = some (b, c) ∧ σ.tk.val j = .int .i64 (m : Int) ∧ v = .pointer (some ⟨b, m * sz + o, none⟩)
def okS (σ : Sg) : S → Value → Prop
  | .b x, v => v = .bool x
  | .i k n, v => v = .int k n
  | .p n o, v => ∃ b c, σ n = some (b, c) ∧ v = .pointer (some ⟨b, o, none⟩)
  | .l n o len c false, v => ∃ b c', σ n = some (b, c') ∧ v = .slice (some ⟨b, o, none⟩) len c
  | .l n o len d true, v => ∃ b c, σ n = some (b, c) ∧ d + len ≤ c ∧ v = .slice (some ⟨b, o, none⟩) len (c - d)
  | .x e, v => okX σ e v
def okA (σ : Sg) : A1 → Value → Prop
  | .s x, v => okS σ x v
  | .a l, v => ∃ vs, All2 (okS σ) l vs ∧ v = .agg vs.toArray
def okV (σ : Sg) : V → Value → Prop
  | .s x, v => okS σ x v
  | .a l, v => ∃ vs, All2 (okS σ) l vs ∧ v = .agg vs.toArray
  | .t l, v => ∃ vs, All2 (okA σ) l vs ∧ v = .tuple vs.toArray
section
variable {σ σ' : Sg}
theorem Pl.raw (hs : Sg.sub σ σ') {a : Nm × Nat} {v : Value} (h : Pl σ a v) : Pl σ' a v := let ⟨b, c, h1, h2⟩ := h; ⟨b, c, hs _ _ h1, h2⟩
theorem okX_raw (hs : Sg.sub σ σ') {x : S0} {v : Value} (h : okX σ x v) : okX σ' x v := by
  cases x with
  | f g caps => exact let ⟨vs, h1, h2⟩ := h; ⟨vs, h1.mono (fun _ _ => Pl.raw hs), h2⟩
  | y n => exact let ⟨b, c, h1, h2⟩ := h; ⟨b, c, hs _ _ h1, h2⟩
  | m n => exact let ⟨b, c, h1, h2⟩ := h; ⟨b, c, hs _ _ h1, h2⟩
  | im t n => exact let ⟨b, c, h1, h2⟩ := h; ⟨b, c, hs _ _ h1, h2⟩
  | tk i => show v = σ'.tk.val i; rw [hs.tk]; exact h
  | os n l => obtain ⟨b, c, m, h1, h2, h3, h4⟩ := h; exact ⟨b, c, m, hs _ _ h1, by rw [hs.tk]; exact h2, h3, h4⟩
  | pk n j sz o => obtain ⟨b, c, m, h1, h2, h4⟩ := h; exact ⟨b, c, m, hs _ _ h1, by rw [hs.tk]; exact h2, h4⟩
  | _ => exact h
theorem okS_raw (hs : Sg.sub σ σ') {x : S} {v : Value} (h : okS σ x v) : okS σ' x v := by
  cases x with
  | p n o => exact let ⟨b, c, h1, h2⟩ := h; ⟨b, c, hs _ _ h1, h2⟩
  | l n o len c r =>
    cases r with
    | false => exact let ⟨b, c, h1, h2⟩ := h; ⟨b, c, hs _ _ h1, h2⟩
    | true => exact let ⟨b, c, h1, h2⟩ := h; ⟨b, c, hs _ _ h1, h2⟩
  | x e => exact okX_raw (x := e) (v := v) hs h
  | _ => exact h
theorem okA_raw (hs : Sg.sub σ σ') {x : A1} {v : Value} (h : okA σ x v) : okA σ' x v := by
  cases x with
  | s x => exact okS_raw (x := x) (v := v) hs h
  | a l => exact let ⟨vs, h1, h2⟩ := h; ⟨vs, h1.mono (fun _ _ => okS_raw hs), h2⟩
theorem okV_raw (hs : Sg.sub σ σ') {x : V} {v : Value} (h : okV σ x v) : okV σ' x v := by
  cases x with
  | s x => exact okS_raw (x := x) (v := v) hs h
  | a l => exact let ⟨vs, h1, h2⟩ := h; ⟨vs, h1.mono (fun _ _ => okS_raw hs), h2⟩
  | t l => exact let ⟨vs, h1, h2⟩ := h; ⟨vs, h1.mono (fun _ _ => okA_raw hs), h2⟩
theorem Pl.mono (hs : Sg.le σ σ') {a : Nm × Nat} {v : Value} (h : Pl σ a v) : Pl σ' a v := Pl.raw hs.keep h
theorem okV_mono (hs : Sg.le σ σ') {x : V} {v : Value} (h : okV σ x v) : okV σ' x v := okV_raw hs.keep h
theorem okS_cell {x : S} {v : Value} (h : okS σ x v) : v.cells = #[v] ∧ v.oneCell' = true := by
  cases x with
  | b x => cases (show v = .bool x from h); exact ⟨rfl, rfl⟩
  | i k n => cases (show v = .int k n from h); exact ⟨rfl, rfl⟩
  | p n o => obtain ⟨b, c, h1, rfl⟩ := h; exact ⟨rfl, rfl⟩
  | l n o len c r =>
    cases r with
    | false => obtain ⟨b, c, h1, rfl⟩ := h; exact ⟨rfl, rfl⟩
    | true => obtain ⟨b, c, h1, h2, rfl⟩ := h; exact ⟨rfl, rfl⟩
  | x e =>
    cases e with
    | se => obtain ⟨a, c, rfl⟩ := h; exact ⟨rfl, rfl⟩
    | f g caps => obtain ⟨vs, h1, rfl⟩ := h; exact ⟨rfl, rfl⟩
    | y n => obtain ⟨b, c, h1, rfl⟩ := h; exact ⟨rfl, rfl⟩
    | m n => obtain ⟨b, c, h1, rfl⟩ := h; exact ⟨rfl, rfl⟩
    | im t n => obtain ⟨b, c, h1, rfl⟩ := h; exact ⟨rfl, rfl⟩
    | pn => cases (show v = .pointer none from h); exact ⟨rfl, rfl⟩
    | sn => cases (show v = .slice none 0 0 from h); exact ⟨rfl, rfl⟩
    | fn => cases (show v = .nilFunc from h); exact ⟨rfl, rfl⟩
    | mn => cases (show v = .map none from h); exact ⟨rfl, rfl⟩
    | nn => cases (show v = .nilIface from h); exact ⟨rfl, rfl⟩
    | str s => cases (show v = .string s from h); exact ⟨rfl, rfl⟩
    | par k p => obtain ⟨m, h1, rfl⟩ := h; exact ⟨rfl, rfl⟩
    | tk i => cases (show v = σ.tk.val i from h); exact σ.tk.one i
    | os n l => obtain ⟨b, c, m, h1, h2, h3, rfl⟩ := h; exact ⟨rfl, rfl⟩
    | pk n j sz o => obtain ⟨b, c, m, h1, h2, rfl⟩ := h; exact ⟨rfl, rfl⟩
end
end Go.Proofs.YtpcdcemcjbeajaaGreatDoor
set_option linter.unusedVariables false
set_option linter.unusedSimpArgs false
namespace Go.Proofs.YtpcdcemcjbeajaaGreatDoor
open Go.RowKit
abbrev En := T4 (Option V)
abbrev Hp := T8 (Option O)
noncomputable def noEnv : En := emp4 none
inductive Rs | bad (n : Nat) | F (v : V) (h : Hp) (nx : Nm) | C (e : Ex) (env : En) (h : Hp) (nx : Nm) (ds : List D)
inductive Cmd | F (f : FuncId) (vs : List V) (h : Hp) (nx : Nm) | C (n : Nat) (q : Bool) (c : Code) (env : En) (h : Hp) (nx : Nm) (ds : List D)
abbrev Ih := Cmd → Rs
abbrev Kt := En → Hp → Nm → List D → Rs
abbrev Rn := Ih → Kt → Kt
inductive A | s (p : K4) | k (v : V) | bad
noncomputable def constS : Value → Option S
  | .bool x => some (.b x)
  | .int k n => some (.i k n)
  | .pointer none => some (.x .pn)
  | .slice none 0 0 => some (.x .sn)
  | .nilFunc => some (.x .fn)
  | .nilIface => some (.x .nn)
  | .map none => some (.x .mn)
  | .string s => some (.x (.str s))
  | _ => none
noncomputable def constL : List Value → Option (List S) := List.rec (motive := fun _ => Option (List S)) (some []) (fun v _ r => match constS v, r with | some x, some l => some (x :: l) | _, _ => none)
noncomputable def constV : Value → Option V
  | .agg cs => (constL cs.toList).map V.a
  | v => (constS v).map V.s
noncomputable def slotB (t n : Nat) : Bool := Nat.blt t n && Nat.blt t 256
noncomputable def trA (n : Nat) : Operand → A
  | .tmp t => cond (slotB t n) (.s (slotK t)) .bad
  | .const v => match constV v with | some x => .k x | none => .bad
  | .func f => .k (.s (.x (.f f [])))
  | .global _ => .bad
noncomputable def trAs (n : Nat) : List Operand → List A := List.rec (motive := fun _ => List A) [] (fun x _ r => trA n x :: r)
noncomputable def dstP (n : Nat) : Option Nat → Option K4
  | some d => cond (slotB d n) (some (slotK d)) none
  | none => none
section
variable (P : Program)
noncomputable def zeroL (t : TypeId) : Option (List S) := match P.info? t with | some i => (match i.zero with | some v => constL v.cells.toList | none => none) | none => none
noncomputable def szT (t : TypeId) : Option Nat := match P.info? t with | some i => some i.size | none => none
noncomputable def aggT (t : TypeId) : Option Bool := match P.underlying t with | some d => some (isAggD d) | none => none
end
noncomputable def getA (env : En) (a : A) : Option V := A.rec (motive := fun _ => Option V) (fun p => get4 p env) (fun v => some v) none a
noncomputable def getAs (env : En) (l : List A) : Option (List V) := List.rec (motive := fun _ => Option (List V)) (some []) (fun a _ r => match getA env a, r with | some v, some l => some (v :: l) | _, _ => none) l
noncomputable def onV {α : Type} (x : Option α) (f : α → Rs) : Rs := Option.rec (motive := fun _ => Rs) (.bad 5) f x
noncomputable def onS (x : Option V) (f : S → Rs) : Rs := onV x (V.rec (motive := fun _ => Rs) f (fun _ => .bad 9) (fun _ => .bad 9))
noncomputable def badB (_ : Bool) : Rs := .bad 1
noncomputable def badI (_ : IntKind) (_ : Int) : Rs := .bad 1
noncomputable def badP (_ : Nm) (_ : Nat) : Rs := .bad 1
noncomputable def badL (_ : Nm) (_ _ _ : Nat) (_ : Bool) : Rs := .bad 1
noncomputable def badX (_ : S0) : Rs := .bad 1
noncomputable def onP (x : Option V) (f : Nm → Nat → Rs) : Rs := onS x (S.rec (motive := fun _ => Rs) badB badI f badL badX)
noncomputable def onI (x : Option V) (f : IntKind → Int → Rs) : Rs := onS x (S.rec (motive := fun _ => Rs) badB f badP badL badX)
noncomputable def onB (x : Option V) (f : Bool → Rs) : Rs := onS x (S.rec (motive := fun _ => Rs) f badI badP badL badX)
noncomputable def onC (x : Option O) (f : TypeId → Nat → Nat → List S → Rs) : Rs := onV x (O.rec (motive := fun _ => Rs) f (fun _ _ => .bad 4) (fun _ _ _ _ => .bad 4) (fun _ _ _ _ _ _ => .bad 4) (.bad 4) (fun _ => .bad 4) (fun _ => .bad 4))
noncomputable def vcells : V → Option (List S)
  | .s x => some [x]
  | .a l => some l
  | .t _ => none
noncomputable def put (d : Option K4) (v : V) (env : En) : En := Option.rec (motive := fun _ => En) env (fun p => mod4 p (fun _ => some v) env) d
noncomputable def nth (l : List S) (i : Nat) : Option S := List.rec (motive := fun _ => Nat → Option S) (fun _ => none) (fun x _ ih i => Nat.rec (motive := fun _ => Option S) (some x) (fun j _ => ih j) i) l i
noncomputable def ocons (x : S) (r : Option (List S)) : Option (List S) := Option.rec (motive := fun _ => Option (List S)) none (fun l => some (x :: l)) r
noncomputable def drp (l : List S) (o : Nat) : List S := Nat.rec (motive := fun _ => List S → List S) (fun l => l) (fun _ ih l => List.rec (motive := fun _ => List S) [] (fun _ t _ => ih t) l) o l
noncomputable def tak (l : List S) (n : Nat) : Option (List S) := Nat.rec (motive := fun _ => List S → Option (List S)) (fun _ => some []) (fun _ ih l => List.rec (motive := fun _ => Option (List S)) none (fun x t _ => ocons x (ih t)) l) n l
noncomputable def cut (l : List S) (o n : Nat) : Option (List S) := tak (drp l o) n
noncomputable def mkV (ag : Bool) (l : List S) : Option V := match ag, l with | true, l => some (.a l) | false, [x] => some (.s x) | _, _ => none
noncomputable def ovr (cs l : List S) : Option (List S) := List.rec (motive := fun _ => List S → Option (List S)) (fun l => some l) (fun c _ ih l => List.rec (motive := fun _ => Option (List S)) none (fun _ t _ => ocons c (ih t)) l) cs l
noncomputable def over (l : List S) (o : Nat) (cs : List S) : Option (List S) := Nat.rec (motive := fun _ => List S → Option (List S)) (ovr cs) (fun _ ih l => List.rec (motive := fun _ => Option (List S)) none (fun x t _ => ocons x (ih t)) l) o l
noncomputable def lenIs (l : List S) (n : Nat) : Bool := List.rec (motive := fun _ => Nat → Bool) (fun n => Nat.beq n 0) (fun _ _ ih n => Nat.rec (motive := fun _ => Bool) false (fun j _ => ih j) n) l n
noncomputable def app (l m : List S) : List S := List.rec (motive := fun _ => List S) m (fun x _ r => x :: r) l
noncomputable def newK (nx : Nm) (f : Nm → Rs) : Rs := suc8 nx f (.bad 70)
def kcode : IntKind → Nat | .i8 => 0 | .i16 => 1 | .i32 => 2 | .i64 => 3 | .u8 => 4 | .u16 => 5 | .u32 => 6 | .u64 => 7
def klim : IntKind → Nat | .i8 => 128 | .i16 => 32768 | .i32 => 2147483648 | .i64 => 9223372036854775808 | .u8 => 256 | .u16 => 65536 | .u32 => 4294967296 | .u64 => 18446744073709551616
def kabove : IntKind → Nat | .i8 => 256 | .i16 => 65536 | .i32 => 4294967296 | .i64 => 18446744073709551616 | .u8 => 256 | .u16 => 65536 | .u32 => 4294967296 | .u64 => 18446744073709551616
noncomputable def wrN (k : IntKind) (n : Nat) : Int := cond (Nat.blt n (klim k)) (.ofNat n) (k.wrap (.ofNat n))
noncomputable def wr (k : IntKind) (n : Int) : Int := Int.casesOn (motive := fun _ => Int) n (fun n => wrN k n) (fun n => k.wrap (.negSucc n))
noncomputable def addI (k : IntKind) (a b : Int) : Int := Int.casesOn (motive := fun _ => Int) a (fun m => Int.casesOn (motive := fun _ => Int) b (fun n => wrN k (Nat.add m n)) (fun n => k.wrap (.ofNat m + .negSucc n))) (fun m => k.wrap (.negSucc m + b))
noncomputable def subI (k : IntKind) (a b : Int) : Int := Int.casesOn (motive := fun _ => Int) a (fun m => Int.casesOn (motive := fun _ => Int) b (fun n => cond (Nat.ble n m) (wrN k (Nat.sub m n)) (k.wrap (.ofNat m - .ofNat n))) (fun n => k.wrap (.ofNat m - .negSucc n))) (fun m => k.wrap (.negSucc m - b))
noncomputable def mulI (k : IntKind) (a b : Int) : Int := Int.casesOn (motive := fun _ => Int) a (fun m => Int.casesOn (motive := fun _ => Int) b (fun n => wrN k (Nat.mul m n)) (fun n => k.wrap (.ofNat m * .negSucc n))) (fun m => k.wrap (.negSucc m * b))
noncomputable def eqI (a b : Int) : Bool := Int.casesOn (motive := fun _ => Bool) a (fun m => Int.casesOn (motive := fun _ => Bool) b (fun n => Nat.beq m n) (fun _ => false)) (fun m => Int.casesOn (motive := fun _ => Bool) b (fun _ => false) (fun n => Nat.beq m n))
noncomputable def ltI (a b : Int) : Bool := Int.casesOn (motive := fun _ => Bool) a (fun m => Int.casesOn (motive := fun _ => Bool) b (fun n => Nat.blt m n) (fun _ => false)) (fun m => Int.casesOn (motive := fun _ => Bool) b (fun _ => true) (fun n => Nat.blt n m))
def bnot : Bool → Bool | true => false | false => true
noncomputable def word (k : IntKind) (a : Int) : Nat := Int.casesOn (motive := fun _ => Nat) a (fun m => Nat.mod m (kabove k)) (fun m => Nat.sub (kabove k) (Nat.succ (Nat.mod m (kabove k))))
noncomputable def pow2 (n : Nat) : Nat := Nat.shiftLeft 1 n
noncomputable def binI (op : BinOp) (k : IntKind) (a b : Int) : Option S :=
  match op with
  | .add => some (.i k (addI k a b)) | .sub => some (.i k (subI k a b)) | .mul => some (.i k (mulI k a b))
  | .eql => some (.b (eqI a b)) | .neq => some (.b (bnot (eqI a b))) | .lss => some (.b (ltI a b)) | .geq => some (.b (bnot (ltI a b))) | .gtr => some (.b (ltI b a)) | .leq => some (.b (bnot (ltI b a)))
  | .and => some (.i k (wrN k (Nat.land (word k a) (word k b)))) | .or => some (.i k (wrN k (Nat.lor (word k a) (word k b)))) | .xor => some (.i k (wrN k (Nat.xor (word k a) (word k b))))
  | .quo => (match a, b with | .ofNat m, .ofNat (n + 1) => some (.i k (wrN k (Nat.div m (n + 1)))) | _, _ => none)
  | .rem => (match a, b with | .ofNat m, .ofNat (n + 1) => some (.i k (.ofNat (Nat.mod m (n + 1)))) | .negSucc m, .ofNat (n + 1) => some (.i k (Int.negOfNat (Nat.mod (m + 1) (n + 1)))) | _, _ => none)
  | _ => none
noncomputable def shI (op : BinOp) (k : IntKind) (a b : Int) : Option S :=
  match op, a, b with
  | .shl, .ofNat m, .ofNat n => some (.i k (wrN k (Nat.mul m (pow2 (cond (Nat.ble n k.bits) n k.bits)))))
  | .shr, .ofNat m, .ofNat n => some (.i k (.ofNat (Nat.div m (pow2 (cond (Nat.ble n k.bits) n k.bits)))))
  | _, _, _ => none
noncomputable def beqPs : List (Nm × Nat) → List (Nm × Nat) → Bool
  | [], [] => true
  | (p, a) :: l, (q, b) :: m => nmEq p q && Nat.beq a b && beqPs l m
  | _, _ => false
noncomputable def beq0 : S0 → S0 → Bool
  | .pn, .pn | .sn, .sn | .fn, .fn | .mn, .mn | .nn, .nn | .se, .se => true
  | .f g l, .f g' l' => Nat.beq g g' && beqPs l l'
  | .y n, .y m | .m n, .m m => nmEq n m
  | .im t n, .im t' m => Nat.beq t t' && nmEq n m
  | .str s, .str t => s.data.toList == t.data.toList
  | .tk i, .tk j => Nat.beq i j
  | .os n l, .os m k => nmEq n m && Nat.beq l k
  | .pk n j s o, .pk m k t q => nmEq n m && (Nat.beq j k && (Nat.beq s t && Nat.beq o q))
  | _, _ => false
noncomputable def beqS : S → S → Bool
  | .b true, .b true => true
  | .b false, .b false => true
  | .i j a, .i k b => Nat.beq (kcode j) (kcode k) && eqI a b
  | .p n o, .p m q => nmEq n m && Nat.beq o q
  | .l n o len c true, .l n' o' len' c' true => nmEq n n' && Nat.beq o o' && Nat.beq len len' && Nat.beq c c'
  | .l n o len c false, .l n' o' len' c' false => nmEq n n' && Nat.beq o o' && Nat.beq len len' && Nat.beq c c'
  | .x a, .x b => beq0 a b
  | _, _ => false
noncomputable def beqL : List S → List S → Bool
  | [], [] => true
  | a :: l, b :: m => beqS a b && beqL l m
  | _, _ => false
noncomputable def beqA : A1 → A1 → Bool
  | .s a, .s b => beqS a b
  | .a l, .a m => beqL l m
  | _, _ => false
def bcode : BinOp → Nat | .add => 0 | .sub => 1 | .mul => 2 | .quo => 3 | .rem => 4 | .and => 5 | .or => 6 | .xor => 7 | .shl => 8 | .shr => 9 | .andNot => 10 | .eql => 11 | .neq => 12 | .lss => 13 | .leq => 14 | .gtr => 15 | .geq => 16
noncomputable def findB (op : BinOp) (x y : S) (l : List TbE) : Option S := List.rec (motive := fun _ => Option S) none (fun e _ r => match e with | .bin op' x' y' z => cond (Nat.beq (bcode op') (bcode op)) (cond (beqS x' x) (cond (beqS y' y) (some z) r) r) r | _ => r) l
noncomputable def findC (k : IntKind) (x : S) (l : List TbE) : Option S := List.rec (motive := fun _ => Option S) none (fun e _ r => match e with | .cv k' x' z => cond (Nat.beq (kcode k') (kcode k)) (cond (beqS x' x) (some z) r) r | _ => r) l
noncomputable def tbN : Nm := ⟨zero4, zero4⟩
noncomputable def tbOf (h : Hp) : List TbE := match get8 tbN h with | some (.tb l) => l | _ => []
section
variable (d : Option K4)
noncomputable def r_mv (x : A) : Rn := fun _ k env h nx ds => onV (getA env x) fun v => k (put d v env) h nx ds
noncomputable def r_nc (x : A) : Rn := fun _ k env h nx ds => onS (getA env x) (S.rec (motive := fun _ => Rs) badB badI (fun n o => k (put d (.s (.p n o)) env) h nx ds) badL
  (fun e => match e with | .f g cs => k (put d (.s (.x (.f g cs))) env) h nx ds | _ => .bad 6))
noncomputable def r_pick (c a b : A) : Rn := fun _ k env h nx ds => onB (getA env c) fun t => onV (cond t (getA env a) (getA env b)) fun v => k (put d v env) h nx ds
noncomputable def r_new (t : TypeId) (z : List S) : Rn := fun _ k env h nx ds => newK nx fun nx' => k (put d (.s (.p nx 0)) env) (set8 nx (some (.c t 0 0 z)) h) nx' ds
noncomputable def r_box (t : TypeId) (x : A) : Rn := fun _ k env h nx ds => onV (getA env x) fun v => onV (vcells v) fun cs => newK nx fun nx' => k (put d (.s (.p nx 0)) env) (set8 nx (some (.c t 0 0 cs)) h) nx' ds
noncomputable def fillA (env : En) : List (Nat × Nat × A) → List S → Option (List S)
  | [], z => some z
  | (o, sz, a) :: ps, z => match (getA env a).bind vcells with | some cs => (match lenIs cs sz, over z o cs with | true, some z => fillA env ps z | _, _ => none) | none => none
noncomputable def rep (l : List S) (n : Nat) : List S := Nat.rec (motive := fun _ => List S) [] (fun _ r => app l r) n
noncomputable def r_bld (z : List S) (ps : List (Nat × Nat × A)) : Rn := fun _ k env h nx ds => onV (fillA env ps z) fun cs => k (put d (.a cs) env) h nx ds
noncomputable def r_bsl (e n : Nat) (z : List S) (ps : List (Nat × Nat × A)) : Rn := fun _ k env h nx ds => onV (fillA env ps (rep z n)) fun cs => newK nx fun nx' => k (put d (.s (.l nx 0 n n false)) env) (set8 nx (some (.c e 0 0 cs)) h) nx' ds
noncomputable def r_ldS (x : A) : Rn := fun _ k env h nx ds => onP (getA env x) fun n o => onC (get8 n h) fun t r m ks => onV (nth ks o) fun s => k (put d (.s s) env) h nx ds
noncomputable def r_ldA (sz : Nat) (x : A) : Rn := fun _ k env h nx ds => onP (getA env x) fun n o => onC (get8 n h) fun t r m ks => onV (cut ks o sz) fun cs => k (put d (.a cs) env) h nx ds
noncomputable def r_st (sz : Nat) (x y : A) : Rn := fun _ k env h nx ds => onP (getA env x) fun n o => onV (getA env y) fun v => onV (vcells v) fun cs => onC (get8 n h) fun t r m ks => cond (lenIs cs sz) (onV (over ks o cs) fun ks => k (put d (.t []) env) (set8 n (some (.c t r m ks)) h) nx ds) (.bad 7)
noncomputable def r_tk (op : BinOp) (x y : A) : Rn := fun _ k env h nx ds => onS (getA env x) fun a => onS (getA env y) fun b => onV (findB op a b (tbOf h)) fun s => k (put d (.s s) env) h nx ds
noncomputable def r_bin (op : BinOp) (x y : A) : Rn := fun ih k env h nx ds => match getA env x, getA env y with
  | some (.s (.i i a)), some (.s (.i j b)) => cond (Nat.beq (kcode i) (kcode j)) (onV (binI op i a b) fun s => k (put d (.s s) env) h nx ds) (.bad 8)
  | _, _ => r_tk d op x y ih k env h nx ds
noncomputable def r_rem (x y : A) : Rn := fun ih k env h nx ds => match getA env x with
  | some (.s (.x (.par i p))) => onI (getA env y) fun j b => cond (Nat.beq (kcode i) (kcode j) && eqI b (.ofNat 2)) (k (put d (.s (.i i (.ofNat p))) env) h nx ds) (.bad 8)
  | _ => r_bin d .rem x y ih k env h nx ds
noncomputable def r_sh (op : BinOp) (x y : A) : Rn := fun ih k env h nx ds => match getA env x, getA env y with
  | some (.s (.i i a)), some (.s (.i j b)) => onV (shI op i a b) fun s => k (put d (.s s) env) h nx ds
  | _, _ => r_tk d op x y ih k env h nx ds
noncomputable def eqC (κ : Nat) (a b : S) : Option Bool := match κ, a, b with
  | 0, .i j a, .i k b => cond (Nat.beq (kcode j) (kcode k)) (some (eqI a b)) none
  | 1, .b a, .b b => some (cond a b (bnot b))
  | 2, .x (.str s), .x (.str t) => some (s.data.toList == t.data.toList)
  | _, _, _ => none
noncomputable def eqL : List Nat → List S → List S → Option Bool
  | [], _, _ => some true
  | κ :: ks, a :: l, b :: m => match eqC κ a b, eqL ks l m with | some p, some q => some (cond p q false) | _, _ => none
  | _, _, _ => none
noncomputable def eqP (κ : Nat) (a b : S) : Option Bool := match κ, a, b with
  | 0, .x .pn, .x .pn => some true
  | 0, .x .pn, .p _ _ => some false
  | 0, .p _ _, .x .pn => some false
  | 1, .x .fn, .x .fn => some true
  | 1, .x .fn, .x (.f _ _) => some false
  | 1, .x (.f _ _), .x .fn => some false
  | 2, .x .sn, .x .sn => some true
  | 2, .l _ _ _ _ _, .x .sn => some false
  | 2, .x .sn, .l _ _ _ _ _ => some false
  | 2, .x .se, .x .sn => some false
  | 3, .x .mn, .x .mn => some true
  | 3, .x (.m _), .x .mn => some false
  | 4, .x .nn, .x .nn => some true
  | _, _, _ => none
noncomputable def neg1 (ne : Bool) (b : Bool) : Bool := cond ne (bnot b) b
noncomputable def r_eqS (κ : Nat) (ne : Bool) (x y : A) : Rn := fun _ k env h nx ds => onS (getA env x) fun a => onS (getA env y) fun b => onV (eqC κ a b) fun r => k (put d (.s (.b (neg1 ne r))) env) h nx ds
noncomputable def r_eqP (κ : Nat) (ne : Bool) (x y : A) : Rn := fun _ k env h nx ds => onS (getA env x) fun a => onS (getA env y) fun b => onV (eqP κ a b) fun r => k (put d (.s (.b (neg1 ne r))) env) h nx ds
noncomputable def onA (x : Option V) (f : List S → Rs) : Rs := onV x (V.rec (motive := fun _ => Rs) (fun _ => .bad 11) f (fun _ => .bad 11))
noncomputable def onT (x : Option V) (f : List A1 → Rs) : Rs := onV x (V.rec (motive := fun _ => Rs) (fun _ => .bad 16) (fun _ => .bad 16) f)
noncomputable def r_eqA (κs : List Nat) (ne : Bool) (x y : A) : Rn := fun _ k env h nx ds => onA (getA env x) fun a => onA (getA env y) fun b => cond (lenIs a κs.length && lenIs b κs.length) (onV (eqL κs a b) fun r => k (put d (.s (.b (neg1 ne r))) env) h nx ds) (.bad 11)
noncomputable def r_not (x : A) : Rn := fun _ k env h nx ds => onB (getA env x) fun b => k (put d (.s (.b (bnot b))) env) h nx ds
noncomputable def r_neg (x : A) : Rn := fun _ k env h nx ds => onI (getA env x) fun i a => k (put d (.s (.i i (subI i (.ofNat 0) a))) env) h nx ds
noncomputable def r_conv (i : IntKind) (x : A) : Rn := fun _ k env h nx ds => match getA env x with
  | some (.s (.i _ a)) => k (put d (.s (.i i (wr i a))) env) h nx ds
  | some (.s (.x e)) => onV (findC i (.x e) (tbOf h)) fun s => k (put d (.s s) env) h nx ds
  | _ => .bad 9
noncomputable def r_fad (off : Nat) (x : A) : Rn := fun _ k env h nx ds => onP (getA env x) fun n o => k (put d (.s (.p n (Nat.add o off))) env) h nx ds
noncomputable def r_fldS (off : Nat) (x : A) : Rn := fun _ k env h nx ds => onA (getA env x) fun l => onV (nth l off) fun s => k (put d (.s s) env) h nx ds
noncomputable def r_fldA (off sz : Nat) (x : A) : Rn := fun _ k env h nx ds => onA (getA env x) fun l => onV (cut l off sz) fun s => k (put d (.a s) env) h nx ds
noncomputable def onN (i : Int) (f : Nat → Rs) : Rs := Int.rec (motive := fun _ => Rs) f (fun _ => .bad 13) i
noncomputable def onL (x : Option V) (f : Nm → Nat → Nat → Nat → Bool → Rs) : Rs := onS x (S.rec (motive := fun _ => Rs) badB badI badP f badX)
noncomputable def r_iadS (sz : Nat) (x y : A) : Rn := fun _ k env h nx ds => onL (getA env x) fun n o len c r => onI (getA env y) fun _ i => onN i fun j => cond (Nat.blt j len) (k (put d (.s (.p n (Nat.add o (Nat.mul j sz)))) env) h nx ds) (.bad 13)
noncomputable def r_iadA (len sz : Nat) (x y : A) : Rn := fun _ k env h nx ds => onP (getA env x) fun n o => onI (getA env y) fun _ i => onN i fun j => cond (Nat.blt j len) (k (put d (.s (.p n (Nat.add o (Nat.mul j sz)))) env) h nx ds) (.bad 14)
noncomputable def r_ixS (x y : A) : Rn := fun _ k env h nx ds => match getA env x with
  | some (.s (.x (.str s))) => onI (getA env y) fun _ i => onN i fun j => (match s.data.toList[j]? with | some b => k (put d (.s (.i .u8 (.ofNat b.toNat))) env) h nx ds | none => .bad 15)
  | _ => .bad 15
noncomputable def r_ixA (len sz : Nat) (ag : Bool) (x y : A) : Rn := fun _ k env h nx ds => onA (getA env x) fun l => onI (getA env y) fun _ i => onN i fun j => cond (Nat.blt j len) (cond ag (onV (cut l (Nat.mul j sz) sz) fun cs => k (put d (.a cs) env) h nx ds) (onV (nth l (Nat.mul j sz)) fun s => k (put d (.s s) env) h nx ds)) (.bad 15)
noncomputable def A1.v (x : A1) : V := A1.rec (motive := fun _ => V) V.s V.a x
noncomputable def nthA (l : List A1) (i : Nat) : Option A1 := List.rec (motive := fun _ => Nat → Option A1) (fun _ => none) (fun x _ ih i => Nat.rec (motive := fun _ => Option A1) (some x) (fun j _ => ih j) i) l i
noncomputable def r_ext (x : A) (i : Nat) : Rn := fun _ k env h nx ds => onT (getA env x) fun l => onV (nthA l i) fun y => k (put d y.v env) h nx ds
noncomputable def ptrs : List V → Option (List (Nm × Nat)) := List.rec (motive := fun _ => Option (List (Nm × Nat))) (some []) (fun v _ r => match v, r with | .s (.p n o), some l => some ((n, o) :: l) | _, _ => none)
noncomputable def r_mkf (g : FuncId) (cs : List A) : Rn := fun _ k env h nx ds => onV ((getAs env cs).bind ptrs) fun ps => k (put d (.s (.x (.f g ps))) env) h nx ds
noncomputable def bnd (env : En) (a : Option A) : Option (Option Nat) := match a with | none => some none | some a => (match getA env a with | some (.s (.i _ (.ofNat n))) => some (some n) | _ => none)
noncomputable def room (sz m : Nat) (o : Option O) : Bool := match o with | some (.c _ r n _) => Nat.beq r sz && Nat.ble m n && Nat.blt 0 sz | _ => false
noncomputable def r_slS (sz : Nat) (x : A) (lo hi mx : Option A) : Rn := fun _ k env h nx ds =>
  onV (bnd env lo) fun lo => onV (bnd env hi) fun hi => onV (bnd env mx) fun mx =>
    match getA env x with
    | some (.s (.x .sn)) => cond (Nat.beq (lo.getD 0) 0 && Nat.beq (hi.getD 0) 0 && Nat.beq (mx.getD 0) 0) (k (put d (.s (.x .sn)) env) h nx ds) (.bad 17)
    | some (.s (.x .se)) => (match mx with | none => cond (Nat.beq (lo.getD 0) 0 && Nat.beq (hi.getD 0) 0) (k (put d (.s (.x .se)) env) h nx ds) (.bad 17) | _ => .bad 17)
    | some (.s (.l n o len c false)) =>
      cond (Nat.ble (lo.getD 0) (hi.getD len) && Nat.ble (hi.getD len) (mx.getD c) && Nat.ble (mx.getD c) c) (k (put d (.s (.l n (cond (Nat.beq (mx.getD c) (lo.getD 0)) o (Nat.add o (Nat.mul (lo.getD 0) sz))) (Nat.sub (hi.getD len) (lo.getD 0)) (Nat.sub (mx.getD c) (lo.getD 0)) false)) env) h nx ds) (.bad 17)
    | some (.s (.l n o len c true)) =>
      (match mx with
      | none =>
        cond (Nat.ble (lo.getD 0) (hi.getD len) && (Nat.ble (hi.getD len) len || room sz (Nat.add c (hi.getD len)) (get8 n h)))
          (cond (Nat.blt (lo.getD 0) (hi.getD len) || Nat.beq (lo.getD 0) 0 || Nat.blt (lo.getD 0) len) (k (put d (.s (.l n (Nat.add o (Nat.mul (lo.getD 0) sz)) (Nat.sub (hi.getD len) (lo.getD 0)) (Nat.add c (lo.getD 0)) true)) env) h nx ds) (k (put d (.s (.x .se)) env) h nx ds)) (.bad 17)
      | some m => cond (Nat.ble (lo.getD 0) (hi.getD len) && Nat.ble (hi.getD len) m && Nat.ble m len && Nat.blt (lo.getD 0) m) (k (put d (.s (.l n (Nat.add o (Nat.mul (lo.getD 0) sz)) (Nat.sub (hi.getD len) (lo.getD 0)) (Nat.sub m (lo.getD 0)) false)) env) h nx ds) (.bad 17))
    | _ => .bad 17
noncomputable def r_slA (len sz : Nat) (x : A) (lo hi mx : Option A) : Rn := fun _ k env h nx ds =>
  onV (bnd env lo) fun lo => onV (bnd env hi) fun hi => onV (bnd env mx) fun mx => onP (getA env x) fun n o =>
    cond (Nat.ble (lo.getD 0) (hi.getD len) && Nat.ble (hi.getD len) (mx.getD len) && Nat.ble (mx.getD len) len) (k (put d (.s (.l n (cond (Nat.beq (mx.getD len) (lo.getD 0)) o (Nat.add o (Nat.mul (lo.getD 0) sz))) (Nat.sub (hi.getD len) (lo.getD 0)) (Nat.sub (mx.getD len) (lo.getD 0)) false)) env) h nx ds) (.bad 18)
noncomputable def r_tap (len : Nat) (x : A) : Rn := fun _ k env h nx ds => onL (getA env x) fun n o m _ _ => cond (Nat.ble len m) (k (put d (.s (.p n o)) env) h nx ds) (.bad 19)
noncomputable def r_mks (e : TypeId) (z : List S) (x y : A) : Rn := fun _ k env h nx ds => onI (getA env x) fun _ a => onI (getA env y) fun _ b => onN a fun l => onN b fun c =>
  cond (Nat.ble l c && Nat.ble c 1000000) (newK nx fun nx' => k (put d (.s (.l nx 0 l c false)) env) (set8 nx (some (.c e 0 0 (rep z c))) h) nx' ds) (.bad 20)
noncomputable def capV (a : Nm × Nat) : V := .s (.p a.1 a.2)
noncomputable def setPs (env : En) (n : Nat) : List Nat → List V → Option En
  | [], [] => some env
  | p :: ps, v :: vs => cond (slotB p n) (setPs (mod4 (slotK p) (fun _ => some v) env) n ps vs) none
  | _, _ => none
noncomputable def appV (l m : List V) : List V := List.rec (motive := fun _ => List V) m (fun x _ r => x :: r) l
noncomputable def capVs (l : List (Nm × Nat)) : List V := List.rec (motive := fun _ => List V) [] (fun x _ r => capV x :: r) l
noncomputable def onF (r : Rs) (f : V → Hp → Nm → Rs) : Rs := Rs.rec (motive := fun _ => Rs) Rs.bad f (fun _ _ _ _ _ => .bad 21) r
noncomputable def onE (r : Rs) (f : Ex → En → Hp → Nm → List D → Rs) : Rs := Rs.rec (motive := fun _ => Rs) Rs.bad (fun _ _ _ => .bad 22) f r
noncomputable def onX (x : S0) (f : FuncId → List (Nm × Nat) → Rs) (g : Nm → Rs) : Rs := match x with | .f a b => f a b | .y n => g n | _ => .bad 23
noncomputable def onLp (x : Option O) (f : Ex → Nat → En → List Nat → Code → Code → Rs) : Rs := onV x (O.rec (motive := fun _ => Rs) (fun _ _ _ _ => .bad 24) (fun _ _ => .bad 24) (fun _ _ _ _ => .bad 24) f (.bad 24) (fun _ => .bad 24) (fun _ => .bad 24))
noncomputable def exN (e : Ex) (f : Rs) : Rs := Ex.rec (motive := fun _ => Rs) f (fun _ => .bad 22) (.bad 22) e
noncomputable def isN (e : Ex) : Bool := Ex.rec (motive := fun _ => Bool) true (fun _ => false) false e
noncomputable def noD (ds : List D) (f : Rs) : Rs := List.rec (motive := fun _ => Rs) f (fun _ _ _ => .bad 22) ds
noncomputable def r_call (f : A) (xs : List A) : Rn := fun ih k env h nx ds =>
  onV (getAs env xs) fun vs => onS (getA env f) (S.rec (motive := fun _ => Rs) badB badI badP badL (fun e => onX e
    (fun g caps => onF (ih (.F g (appV vs (capVs caps)) h nx)) fun v h nx => k (put d v env) h nx ds)
    (fun l => onLp (get8 l h) fun e n env1 ps asg body => exN e (onV (setPs env1 n ps vs) fun env2 =>
      onE (ih (.C n true asg env2 (set8 l none h) nx [])) fun e env3 h nx ds3 => exN e (noD ds3
        (onE (ih (.C n true body env3 h nx [])) fun e _ h nx ds4 => noD ds4
          (k (put d (.s (.b (isN e))) env) (set8 l (some (.lp e n env1 ps asg body)) h) nx ds)))))))
noncomputable def growS (e sz need : Nat) (cs : List S) (h : Hp) (nx : Nm) (k : V → Hp → Nm → Rs) : Rs := cond (Nat.ble need 1000000) (newK nx fun nx' => k (.s (.l nx 0 need 0 true)) (set8 nx (some (.c e sz need cs)) h) nx') (.bad 24)
noncomputable def appS (e sz : Nat) (x : V) (ys : List S) (n2 : Nat) (h : Hp) (nx : Nm) (k : V → Hp → Nm → Rs) : Rs := match x with
  | .s (.x .sn) => cond (Nat.beq n2 0) (k (.s (.x .sn)) h nx) (growS e sz n2 ys h nx k)
  | .s (.l n o len c false) => cond (Nat.beq n2 0) (cond (Nat.ble len c) (k (.s (.l n o len c false)) h nx) (.bad 24)) (onC (get8 n h) fun t r m ks =>
      cond (Nat.ble (Nat.add len n2) c) (onV (over ks (Nat.add o (Nat.mul len sz)) ys) fun ks => k (.s (.l n o (Nat.add len n2) c false)) (set8 n (some (.c t r m ks)) h) nx)
        (onV (cut ks o (Nat.mul len sz)) fun xs => growS e sz (Nat.add len n2) (app xs ys) h nx k))
  | .s (.l n o len c true) => cond (Nat.beq n2 0) (k (.s (.l n o len c true)) h nx) (onC (get8 n h) fun t r m ks =>
      cond (Nat.beq r sz && Nat.blt 0 sz)
      (cond (Nat.ble (Nat.add (Nat.add c len) n2) m) (onV (over ks (Nat.add o (Nat.mul len sz)) ys) fun ks => k (.s (.l n o (Nat.add len n2) c true)) (set8 n (some (.c t r m ks)) h) nx)
        (cond (Nat.beq o 0 && Nat.beq c 0 && Nat.beq t e)
          (onV (cond (Nat.beq len m) (some ks) (cut ks 0 (Nat.mul len sz))) fun xs => growS e sz (Nat.add len n2) (app xs ys) (set8 n none h) nx k) (.bad 25))) (.bad 26))
  | _ => .bad 28
noncomputable def rdS (sz : Nat) (h : Hp) : V → Option (Nat × List S)
  | .s (.x .sn) => some (0, [])
  | .s (.x .se) => some (0, [])
  | .s (.l n o len _ _) => (match get8 n h with | some (.c _ _ _ ks) => (match cut ks o (Nat.mul len sz) with | some l => some (len, l) | none => none) | _ => none)
  | _ => none
noncomputable def r_app (e sz : Nat) (x y : A) : Rn := fun _ k env h nx ds => onV (getA env x) fun v => onV ((getA env y).bind (rdS sz h)) fun p => appS e sz v p.2 p.1 h nx fun v h nx => k (put d v env) h nx ds
noncomputable def r_appZ (e sz : Nat) (z : List S) (x y : A) : Rn := fun _ k env h nx ds => onV (getA env x) fun v => onI (getA env y) fun _ i => onN i fun n => cond (Nat.ble n 1000000) (appS e sz v (rep z n) n h nx fun v h nx => k (put d v env) h nx ds) (.bad 29)
noncomputable def lenV (κ : Nat) (h : Hp) (v : V) : Option Nat := match κ, v with
  | 0, .s (.l _ _ len _ _) => some len
  | 0, .s (.x .sn) => some 0
  | 0, .s (.x .se) => some 0
  | 1, .s (.x .mn) => some 0
  | 1, .s (.x (.m n)) => (match get8 n h with | some (.m es _) => some es.length | _ => none)
  | 2, .s (.x (.str s)) => some s.size
  | _, _ => none
noncomputable def r_len (κ : Nat) (x : A) : Rn := fun _ k env h nx ds => onV ((getA env x).bind (lenV κ h)) fun n => k (put d (.s (.i .i64 (.ofNat n))) env) h nx ds
noncomputable def capS (v : V) : Option Nat := match v with | .s (.l _ _ _ c false) => some c | .s (.x .sn) => some 0 | _ => none
noncomputable def r_cap (x : A) : Rn := fun _ k env h nx ds => onV ((getA env x).bind capS) fun n => k (put d (.s (.i .i64 (.ofNat n))) env) h nx ds
noncomputable def r_const (v : V) : Rn := fun _ k env h nx ds => k (put d v env) h nx ds
noncomputable def r_mm (mx : Bool) (x y : A) : Rn := fun _ k env h nx ds => onI (getA env x) fun i a => onI (getA env y) fun j b => cond (Nat.beq (kcode i) (kcode j)) (k (put d (.s (.i i (cond (cond mx (ltI a b) (ltI b a)) b a))) env) h nx ds) (.bad 30)
noncomputable def r_copy (sz : Nat) (x y : A) : Rn := fun _ k env h nx ds => onV ((getA env y).bind (rdS sz h)) fun p => match getA env x with
  | some (.s (.x .sn)) => k (put d (.s (.i .i64 (.ofNat 0))) env) h nx ds
  | some (.s (.l n o len _ _)) => onC (get8 n h) fun t r m ks => onV (tak p.2 (Nat.mul (cond (Nat.ble p.1 len) p.1 len) sz)) fun ys => onV (over ks o ys) fun ks =>
      k (put d (.s (.i .i64 (.ofNat (cond (Nat.ble p.1 len) p.1 len)))) env) (set8 n (some (.c t r m ks)) h) nx ds
  | _ => .bad 31
noncomputable def r_clr (z : List S) (x : A) : Rn := fun _ k env h nx ds => match getA env x with
  | some (.s (.x .sn)) => k (put d (.t []) env) h nx ds
  | some (.s (.x .se)) => k (put d (.t []) env) h nx ds
  | some (.s (.l n o len _ _)) => onC (get8 n h) fun t r m ks => onV (over ks o (rep z len)) fun ks => k (put d (.t []) env) (set8 n (some (.c t r m ks)) h) nx ds
  | _ => .bad 32
noncomputable def v1 : V → Option A1 | .s x => some (.s x) | .a l => some (.a l) | .t _ => none
noncomputable def keyB (κs : List Nat) (a : A1) : Bool := match κs, a with
  | [_], .s _ => true
  | [_], _ => false
  | κs, .a l => lenIs l κs.length
  | _, _ => false
noncomputable def keyV (κs : List Nat) (v : V) : Option A1 := match v1 v with | some a => cond (keyB κs a) (some a) none | none => none
noncomputable def zB (κs : List Nat) : Bool := List.rec (motive := fun _ => Bool) true (fun κ _ r => cond (Nat.beq κ 0) r false) κs
noncomputable def keyZ (κs : List Nat) (v : V) : Option A1 := cond (zB κs) (keyV κs v) none
noncomputable def eqK (κs : List Nat) (a b : A1) : Option Bool := match κs, a, b with
  | [κ], .s a, .s b => eqC κ a b
  | [_], _, _ => none
  | κs, .a a, .a b => cond (lenIs a κs.length && lenIs b κs.length) (eqL κs a b) none
  | _, _, _ => none
noncomputable def findK (κs : List Nat) (k : A1) : List (A1 × A1 × Nat) → Option (Option A1)
  | [] => some none
  | (k', v, _) :: es => match eqK κs k k' with | some true => some (some v) | some false => findK κs k es | none => none
noncomputable def updK (κs : List Nat) (k v : A1) : List (A1 × A1 × Nat) → Option (List (A1 × A1 × Nat))
  | [] => none
  | (k', v', b) :: es => match eqK κs k k' with | some true => some ((k, v, b) :: es) | some false => (match updK κs k v es with | some r => some ((k', v', b) :: r) | none => none) | none => none
noncomputable def delK (κs : List Nat) (k : A1) : List (A1 × A1 × Nat) → Option (List (A1 × A1 × Nat))
  | [] => some []
  | (k', v', b) :: es => match eqK κs k k' with | some true => some es | some false => (match delK κs k es with | some r => some ((k', v', b) :: r) | none => none) | none => none
noncomputable def onM (x : Option O) (f : List (A1 × A1 × Nat) → Nat → Rs) : Rs := match x with | some (.m es clk) => f es clk | _ => .bad 33
noncomputable def r_mkm : Rn := fun _ k env h nx ds => newK nx fun nx' => k (put d (.s (.x (.m nx))) env) (set8 nx (some (.m [] 0)) h) nx' ds
noncomputable def lkR (ok : Bool) (v : A1) (b : Bool) : Option V := match ok, v with | false, v => some v.v | true, v => some (.t [v, .s (.b b)])
noncomputable def r_lkp (κs : List Nat) (z : A1) (ok : Bool) (x i : A) : Rn := fun _ k env h nx ds => onV ((getA env i).bind (keyV κs)) fun key => match getA env x with
  | some (.s (.x .mn)) => onV (lkR ok z false) fun v => k (put d v env) h nx ds
  | some (.s (.x (.m n))) => onM (get8 n h) fun es _ => onV (findK κs key es) fun r => (match r with | some v => onV (lkR ok v true) fun v => k (put d v env) h nx ds | none => onV (lkR ok z false) fun v => k (put d v env) h nx ds)
  | _ => .bad 33
noncomputable def r_mup (κs : List Nat) (x i y : A) : Rn := fun _ k env h nx ds => onV ((getA env i).bind (keyV κs)) fun key => onV ((getA env y).bind v1) fun v => match getA env x with
  | some (.s (.x (.m n))) => onM (get8 n h) fun es clk => onV (findK κs key es) fun r => (match r with
      | some _ => onV (updK κs key v es) fun es => k (put d (.t []) env) (set8 n (some (.m es clk)) h) nx ds
      | none => k (put d (.t []) env) (set8 n (some (.m (es ++ [(key, v, clk)]) (clk + 1))) h) nx ds)
  | _ => .bad 34
noncomputable def r_del (κs : List Nat) (x i : A) : Rn := fun _ k env h nx ds => onV ((getA env i).bind (keyV κs)) fun key => match getA env x with
  | some (.s (.x (.m n))) => onM (get8 n h) fun es clk => onV (delK κs key es) fun es => k (put d (.t []) env) (set8 n (some (.m es clk)) h) nx ds
  | _ => .bad 35
noncomputable def r_rng (x : A) : Rn := fun _ k env h nx ds => match getA env x with
  | some (.s (.x .mn)) => newK nx fun nx' => k (put d (.s (.p nx 0)) env) (set8 nx (some (.it none 0 [] 0)) h) nx' ds
  | some (.s (.x (.m n))) => onM (get8 n h) fun _ clk => newK nx fun nx' => k (put d (.s (.p nx 0)) env) (set8 nx (some (.it (some n) clk [] clk)) h) nx' ds
  | _ => .bad 36
noncomputable def r_nxt (x : A) : Rn := fun _ k env h nx ds => onP (getA env x) fun n o => cond (Nat.beq o 0) (match get8 n h with
  | some (.it none _ _ _) => k (put d (.t [.s (.b false)]) env) h nx ds
  | some (.it (some m) since seen last) => (match get8 m h with
    | some (.m [] _) => k (put d (.t [.s (.b false)]) env) h nx ds
    | some (.m [(key, v, b)] clk) => (match seen with
      | [] => cond (Nat.blt b since) (k (put d (.t [.s (.b true), key, v]) env) (set8 n (some (.it (some m) since [b] clk)) h) nx ds) (.bad 37)
      | [b'] => cond (Nat.beq b b' && Nat.blt b last) (k (put d (.t [.s (.b false)]) env) h nx ds) (.bad 37)
      | _ => .bad 37)
    | _ => .bad 37)
  | _ => .bad 37) (.bad 37)
noncomputable def r_ent (x : A) : Rn := fun _ k env h nx ds => onP (getA env x) fun n o => cond (Nat.beq o 0) (match get8 n h with
  | some (.it (some m) since [b'] last) => (match get8 m h with
    | some (.m [(key, v, b)] clk) => cond (Nat.beq b b' && Nat.beq clk last) (k (put d (.t [key, v]) env) h nx ds) (.bad 38)
    | _ => .bad 38)
  | _ => .bad 38) (.bad 38)
noncomputable def r_mif (t : TypeId) (x : A) : Rn := fun _ k env h nx ds => match getA env x with | some (.s (.x (.m n))) => k (put d (.s (.x (.im t n))) env) h nx ds | _ => .bad 39
noncomputable def r_tas (t : TypeId) (ok : Bool) (x : A) : Rn := fun _ k env h nx ds => match getA env x with | some (.s (.x (.im t' n))) => cond (Nat.beq t' t) (onV (lkR ok (.s (.x (.m n))) true) fun v => k (put d v env) h nx ds) (.bad 40) | _ => .bad 40
noncomputable def r_dfr (f : A) : Rn := fun _ k env h nx ds => match getA env f with | some (.s (.x (.f g caps))) => k (put d (.t []) env) h nx (.cl g caps :: ds) | _ => .bad 41
noncomputable def bytesL (l : List S) : Option (List UInt8) := List.rec (motive := fun _ => Option (List UInt8)) (some []) (fun s _ r => match s, r with | .i .u8 (.ofNat n), some l => some (UInt8.ofNat n :: l) | _, _ => none) l
noncomputable def r_cvBS (x : A) : Rn := fun _ k env h nx ds => onV ((getA env x).bind (rdS 1 h)) fun p => onV (bytesL p.2) fun bs => k (put d (.s (.x (.str (ByteArray.mk bs.toArray)))) env) h nx ds
noncomputable def findX (j l : Nat) (t : List TbE) : Bool := List.rec (motive := fun _ => Bool) false (fun e _ r => match e with | .ix j' l' => cond (Nat.beq j' j) (cond (Nat.beq l' l) true r) r | _ => r) t
noncomputable def findL (i j sz o s : Nat) (t : List TbE) : Option (List S) := List.rec (motive := fun _ => Option (List S)) none (fun e _ r => match e with | .ld i' j' sz' o' cs => cond (Nat.beq i' i) (cond (Nat.beq j' j) (cond (Nat.beq sz' sz) (cond (Nat.beq o' o) (cond (lenIs cs s) (some cs) r) r) r) r) r | _ => r) t
noncomputable def findS (i j sz o : Nat) (cs : List S) (t : List TbE) : Option Nat := List.rec (motive := fun _ => Option Nat) none (fun e _ r => match e with | .st i' j' sz' o' cs' z => cond (Nat.beq i' i) (cond (Nat.beq j' j) (cond (Nat.beq sz' sz) (cond (Nat.beq o' o) (cond (beqL cs' cs) (some z) r) r) r) r) r | _ => r) t
noncomputable def findA (i l m e0 sz0 : Nat) (cs : List S) (t : List TbE) : Option (Nat × Nat) := List.rec (motive := fun _ => Option (Nat × Nat)) none (fun e _ r => match e with | .ap i' l' cs' m' e' s' z1 z2 => cond (Nat.beq i' i) (cond (Nat.beq l' l) (cond (Nat.beq m' m) (cond (Nat.beq e' e0) (cond (Nat.beq s' sz0) (cond (beqL cs' cs) (some (z1, z2)) r) r) r) r) r) r | _ => r) t
noncomputable def findM (i : Nat) (key : A1) (t : List TbE) : Option (Option A1) := List.rec (motive := fun _ => Option (Option A1)) none (fun e _ r => match e with | .lk i' k' z => cond (Nat.beq i' i) (cond (beqA k' key) (some z) r) r | _ => r) t
noncomputable def findU (i : Nat) (key v : A1) (t : List TbE) : Option Nat := List.rec (motive := fun _ => Option Nat) none (fun e _ r => match e with | .up i' k' v' z => cond (Nat.beq i' i) (cond (beqA k' key) (cond (beqA v' v) (some z) r) r) r | _ => r) t
noncomputable def opAt (n : Nm) (h : Hp) : Option Nat := match get8 n h with | some (.op i) => some i | _ => none
noncomputable def q_len (κ : Nat) (x : A) : Rn := fun ih k env h nx ds => match getA env x with
  | some (.s (.x (.os n l))) => cond (Nat.beq κ 0) (k (put d (.s (.x (.tk l))) env) h nx ds) (.bad 4)
  | _ => r_len d κ x ih k env h nx ds
noncomputable def q_iad (sz : Nat) (x y : A) : Rn := fun ih k env h nx ds => match getA env x, getA env y with
  | some (.s (.x (.os n l))), some (.s (.x (.tk j))) => cond (findX j l (tbOf h)) (k (put d (.s (.x (.pk n j sz 0))) env) h nx ds) (.bad 13)
  | _, _ => r_iadS d sz x y ih k env h nx ds
noncomputable def q_fad (off : Nat) (x : A) : Rn := fun ih k env h nx ds => match getA env x with
  | some (.s (.x (.pk n j sz o))) => k (put d (.s (.x (.pk n j sz (Nat.add o off)))) env) h nx ds
  | _ => r_fad d off x ih k env h nx ds
noncomputable def q_nc (x : A) : Rn := fun ih k env h nx ds => match getA env x with
  | some (.s (.x (.pk n j sz o))) => k (put d (.s (.x (.pk n j sz o))) env) h nx ds
  | _ => r_nc d x ih k env h nx ds
noncomputable def q_ldS (x : A) : Rn := fun ih k env h nx ds => match getA env x with
  | some (.s (.x (.pk n j sz o))) => onV (opAt n h) fun i => onV (findL i j sz o 1 (tbOf h)) fun cs => (match cs with | [s] => k (put d (.s s) env) h nx ds | _ => .bad 4)
  | _ => r_ldS d x ih k env h nx ds
noncomputable def q_ldA (s : Nat) (x : A) : Rn := fun ih k env h nx ds => match getA env x with
  | some (.s (.x (.pk n j sz o))) => onV (opAt n h) fun i => onV (findL i j sz o s (tbOf h)) fun cs => k (put d (.a cs) env) h nx ds
  | _ => r_ldA d s x ih k env h nx ds
noncomputable def q_st (s : Nat) (x y : A) : Rn := fun ih k env h nx ds => match getA env x with
  | some (.s (.x (.pk n j sz o))) => onV (getA env y) fun v => onV (vcells v) fun cs => cond (lenIs cs s) (onV (opAt n h) fun i => onV (findS i j sz o cs (tbOf h)) fun i' => k (put d (.t []) env) (set8 n (some (.op i')) h) nx ds) (.bad 7)
  | _ => r_st d s x y ih k env h nx ds
noncomputable def q_app (e sz : Nat) (x y : A) : Rn := fun ih k env h nx ds => match getA env x with
  | some (.s (.x (.os n l))) => onV ((getA env y).bind (rdS sz h)) fun p => cond (Nat.beq p.1 0) (k (put d (.s (.x (.os n l))) env) h nx ds) (onV (opAt n h) fun i => onV (findA i l p.1 e sz p.2 (tbOf h)) fun z => newK nx fun nx' => k (put d (.s (.x (.os nx z.2))) env) (set8 nx (some (.op z.1)) (set8 n none h)) nx' ds)
  | _ => r_app d e sz x y ih k env h nx ds
noncomputable def q_lkp (κs : List Nat) (z : A1) (ok : Bool) (x i : A) : Rn := fun ih k env h nx ds => match getA env x with
  | some (.s (.x (.m n))) => (match get8 n h with
    | some (.op a) => onV ((getA env i).bind (keyZ κs)) fun key => onV (findM a key (tbOf h)) fun r => (match r with | some v => onV (lkR ok v true) fun v => k (put d v env) h nx ds | none => onV (lkR ok z false) fun v => k (put d v env) h nx ds)
    | _ => r_lkp d κs z ok x i ih k env h nx ds)
  | _ => r_lkp d κs z ok x i ih k env h nx ds
noncomputable def q_mup (κs : List Nat) (x i y : A) : Rn := fun ih k env h nx ds => match getA env x with
  | some (.s (.x (.m n))) => (match get8 n h with
    | some (.op a) => onV ((getA env i).bind (keyZ κs)) fun key => onV ((getA env y).bind v1) fun v => onV (findU a key v (tbOf h)) fun a' => k (put d (.t []) env) (set8 n (some (.op a')) h) nx ds
    | _ => r_mup d κs x i y ih k env h nx ds)
  | _ => r_mup d κs x i y ih k env h nx ds
end
inductive Fx | mk (f : Rn)
noncomputable def failed (n : Nat) : Fx := .mk (fun _ _ _ _ _ _ => .bad n)
noncomputable def Fx.run (c : Fx) : Rn := fun ih k env h nx ds => Fx.rec (motive := fun _ => Rs) (fun f => f ih k env h nx ds) c
section
variable (P : Program) (n : Nat)
noncomputable def trO (x : Option Operand) : Option A := match x with | some x => some (trA n x) | none => none
noncomputable def flatF (rec : TypeId → Option (List Nat)) : List Field → Nat → Option (List Nat)
  | [], _ => some []
  | f :: fs, pos => match f.name == "_", Nat.beq f.offset pos, rec f.type with
    | false, true, some l => (match flatF rec fs (pos + l.length) with | some r => some (l ++ r) | none => none)
    | _, _, _ => none
noncomputable def repN (l : List Nat) : Nat → List Nat
  | 0 => []
  | n + 1 => l ++ repN l n
noncomputable def flatK : Nat → TypeId → Option (List Nat)
  | 0, _ => none
  | k + 1, t => match P.underlying t with
    | some (.int _) => some [0]
    | some .bool => some [1]
    | some .string => some [2]
    | some (.struct fs) => (match P.stoodInHeld t, flatF (flatK k) fs.toList 0 with | false, some l => (match szT P t with | some s => cond (Nat.beq s l.length) (some l) none | none => none) | _, _ => none)
    | some (.array n e) => (match flatK k e, szT P t, szT P e with | some l, some s, some s' => cond (Nat.beq s (n * s') && Nat.beq s' l.length) (some (repN l n)) none | _, _, _ => none)
    | _ => none
noncomputable def partsS (fs : Array Field) : List (Nat × Operand) → Option (List (Nat × Nat × A))
  | [] => some []
  | (i, x) :: ps => match fs[i]?, partsS fs ps with | some f, some r => (match szT P f.type with | some s => some ((f.offset, s, trA n x) :: r) | none => none) | _, _ => none
noncomputable def partsA (s : Nat) : List (Nat × Operand) → List (Nat × Nat × A)
  | [] => []
  | (i, x) :: ps => (i * s, s, trA n x) :: partsA s ps
noncomputable def zeroA (t : TypeId) : Option A1 := match P.info? t with | some i => (match i.zero with | some v => (match constV v with | some (.s x) => some (.s x) | some (.a l) => some (.a l) | _ => none) | none => none) | none => none
noncomputable def keyK (t : TypeId) : Option (List Nat) := match aggT P t, flatK P 20 t with | some false, some κs => some κs | some true, some κs => cond (Nat.beq κs.length 1) none (some κs) | _, _ => none
def isC : Operand → Bool | .const _ => true | _ => false
noncomputable def trBin (d : Option K4) (op : BinOp) (t : TypeId) (cst : Bool) (x y : A) : Fx :=
  match P.underlying t with
  | some (.int _) => (match op with | .shl | .shr => .mk (r_sh d op x y) | .rem => .mk (r_rem d x y) | _ => .mk (r_bin d op x y))
  | some .bool => (match op with | .eql => .mk (r_eqS d 1 false x y) | .neq => .mk (r_eqS d 1 true x y) | _ => failed 101)
  | some .string => (match op with | .eql => .mk (r_eqS d 2 false x y) | .neq => .mk (r_eqS d 2 true x y) | _ => failed 101)
  | some (.pointer e) => (match op, szT P e with | .eql, some (_ + 1) => .mk (r_eqP d 0 false x y) | .neq, some (_ + 1) => .mk (r_eqP d 0 true x y) | _, _ => failed 102)
  | some (.func ..) => (match op with | .eql => .mk (r_eqP d 1 false x y) | .neq => .mk (r_eqP d 1 true x y) | _ => failed 103)
  | some (.slice _) => (match op with | .eql => .mk (r_eqP d 2 false x y) | .neq => .mk (r_eqP d 2 true x y) | _ => failed 103)
  | some (.map ..) => (match op with | .eql => .mk (r_eqP d 3 false x y) | .neq => .mk (r_eqP d 3 true x y) | _ => failed 103)
  | some (.interface _) => (match op, cst with | .eql, true => .mk (r_eqP d 4 false x y) | .neq, true => .mk (r_eqP d 4 true x y) | _, _ => failed 103)
  | some (.struct _) | some (.array ..) => (match op, flatK P 20 t, P.eqGuardType P.depth t with | .eql, some κs, false => .mk (r_eqA d κs false x y) | .neq, some κs, false => .mk (r_eqA d κs true x y) | _, _, _ => failed 104)
  | _ => failed 105
noncomputable def bytesB (e : TypeId) : Bool := match P.info? e with | some i => Nat.ble i.bytes 1000000 | none => false
noncomputable def trCall (d : Option K4) (c : Call) : Fx :=
  match c.callee, c.args.toList with
  | .value f, xs => .mk (r_call d (trA n f) (trAs n xs))
  | .builtin .len, [x] => (match (c.argTypes[0]?).bind P.underlying with | some (.array k _) => .mk (r_const d (.s (.i .i64 (.ofNat k)))) | some (.slice _) => .mk (q_len d 0 (trA n x)) | some (.map ..) => .mk (r_len d 1 (trA n x)) | some .string => .mk (r_len d 2 (trA n x)) | _ => failed 106)
  | .builtin .cap, [x] => (match (c.argTypes[0]?).bind P.underlying with | some (.slice _) => .mk (r_cap d (trA n x)) | _ => failed 106)
  | .builtin .append, [x, y] => (match c.argTypes.toList with
    | [ta, tb] => (match P.underlying ta, P.underlying tb with
      | some (.slice e), some (.slice _) => (match szT P e, zeroL P e with | some s, some z => cond (Nat.beq z.length s && bytesB P e) (.mk (q_app d e s (trA n x) (trA n y))) (failed 107) | _, _ => failed 107)
      | some (.slice e), some (.int _) => (match szT P e, zeroL P e with | some s, some z => cond (Nat.beq z.length s && bytesB P e) (.mk (r_appZ d e s z (trA n x) (trA n y))) (failed 107) | _, _ => failed 107)
      | _, _ => failed 107)
    | _ => failed 107)
  | .builtin .copy, [x, y] => (match (c.argTypes[0]?).bind P.underlying with | some (.slice e) => (match szT P e with | some s => .mk (r_copy d s (trA n x) (trA n y)) | none => failed 108) | _ => failed 108)
  | .builtin .clear, [x] => (match (c.argTypes[0]?).bind P.underlying with | some (.slice e) => (match szT P e, zeroL P e with | some s, some z => .mk (r_clr d z (trA n x)) | _, _ => failed 109) | _ => failed 109)
  | .builtin .delete, [x, y] => (match (c.argTypes[0]?).bind P.underlying with | some (.map key _) => (match keyK P key with | some κs => .mk (r_del d κs (trA n x) (trA n y)) | none => failed 110) | _ => failed 110)
  | .builtin .min, [x, y] => .mk (r_mm d false (trA n x) (trA n y))
  | .builtin .max, [x, y] => .mk (r_mm d true (trA n x) (trA n y))
  | _, _ => failed 110
def mxB (hi mx : Option Operand) : Bool := match hi, mx with | none, some _ => false | _, _ => true
noncomputable def trOp (q : Bool) (d : Option K4) (op : Op) : Fx :=
  match op with
  | .move x | .assign x => .mk (r_mv d (trA n x))
  | .pick c a b => .mk (r_pick d (trA n c) (trA n a) (trA n b))
  | .alloc t => (match zeroL P t with | some z => .mk (r_new d t z) | none => failed 111)
  | .box t x => .mk (r_box d t (trA n x))
  | .build t ps => (match P.underlying t, zeroL P t with
    | some (.struct fs), some z => (match partsS P n fs ps.toList, fs.toList.all (fun f => (szT P f.type).isSome) with | some l, true => .mk (r_bld d z l) | _, _ => failed 112)
    | some (.array _ e), some z => (match szT P e with | some s => .mk (r_bld d z (partsA n s ps.toList)) | none => failed 112)
    | _, _ => failed 112)
  | .buildSlice t k ps => (match P.underlying t with
    | some (.slice e) => (match szT P e, zeroL P e with | some s, some z => cond (Nat.ble (k * s) 1000000 && Nat.beq z.length s) (.mk (r_bsl d e k z (partsA n s ps.toList))) (failed 113) | _, _ => failed 113)
    | _ => failed 113)
  | .load t a => (match aggT P t, szT P t with | some true, some s => .mk (q_ldA d s (trA n a)) | some false, some 1 => .mk (q_ldS d (trA n a)) | _, _ => failed 114)
  | .store t a x => (match szT P t with | some s => .mk (q_st d s (trA n a) (trA n x)) | none => failed 115)
  | .nilCheck x => .mk (q_nc d (trA n x))
  | .binOp op t x y _ => trBin P d op t (isC x || isC y) (trA n x) (trA n y)
  | .unOp .not _ x => .mk (r_not d (trA n x))
  | .unOp .neg _ x => .mk (r_neg d (trA n x))
  | .convert s t x => (match P.underlying s, P.underlying t with
    | some (.int _), some (.int k) => .mk (r_conv d k (trA n x))
    | some (.slice e), some .string => (match P.underlying e with | some (.int .u8) => .mk (r_cvBS d (trA n x)) | _ => failed 116)
    | _, _ => failed 116)
  | .sliceToArrayPointer t x => (match P.underlying t with | some (.array k _) => .mk (r_tap d k (trA n x)) | _ => failed 117)
  | .makeInterface t x => (match P.underlying t with | some (.map ..) => .mk (r_mif d t (trA n x)) | _ => failed 118)
  | .makeFunc fn first cs => (match fn, first.toList with | .func g, [] => .mk (r_mkf d g (trAs n cs.toList)) | _, _ => failed 129)
  | .makeMap t none => .mk (r_mkm d)
  | .makeSlice t x y => (match P.underlying t with | some (.slice e) => (match szT P e, zeroL P e with | some s, some z => cond (Nat.beq z.length s && bytesB P e) (.mk (r_mks d e z (trA n x) (trA n y))) (failed 119) | _, _ => failed 119) | _ => failed 119)
  | .slice t x lo hi mx => cond (mxB hi mx) (match P.underlying t with
    | some (.slice e) => (match szT P e with | some s => .mk (r_slS d s (trA n x) (trO n lo) (trO n hi) (trO n mx)) | none => failed 120)
    | some (.array k e) => (match szT P e with | some s => .mk (r_slA d k s (trA n x) (trO n lo) (trO n hi) (trO n mx)) | none => failed 120)
    | _ => failed 120) (failed 120)
  | .fieldAddr t x i => (match P.underlying t with | some (.struct fs) => (match fs[i]? with | some f => (match szT P f.type with | some (_ + 1) => .mk (q_fad d f.offset (trA n x)) | _ => failed 121) | none => failed 121) | _ => failed 121)
  | .field t x i => (match P.underlying t with | some (.struct fs) => (match fs[i]? with | some f => (match aggT P f.type, szT P f.type with | some true, some s => .mk (r_fldA d f.offset s (trA n x)) | some false, some 1 => .mk (r_fldS d f.offset (trA n x)) | _, _ => failed 122) | none => failed 122) | _ => failed 122)
  | .indexAddr t x y => (match P.underlying t with
    | some (.slice e) => (match szT P e with | some s => .mk (q_iad d s (trA n x) (trA n y)) | none => failed 123)
    | some (.array k e) => (match szT P e with | some s => .mk (r_iadA d k s (trA n x) (trA n y)) | none => failed 123)
    | _ => failed 123)
  | .index t x y => (match P.underlying t with
    | some .string => .mk (r_ixS d (trA n x) (trA n y))
    | some (.array k e) => (match szT P e, aggT P e with | some s, some ag => cond (ag || Nat.beq s 1) (.mk (r_ixA d k s ag (trA n x) (trA n y))) (failed 124) | _, _ => failed 124)
    | _ => failed 124)
  | .lookup t x i ok => (match P.underlying t with | some (.map key el) => (match zeroA P el, keyK P key with | some z, some κs => .mk (q_lkp d κs z ok (trA n x) (trA n i)) | _, _ => failed 125) | _ => failed 125)
  | .mapUpdate t x i y | .insert t x i y => (match P.underlying t with | some (.map key el) => (match keyK P key with | some κs => .mk (q_mup d κs (trA n x) (trA n i) (trA n y)) | none => failed 126) | _ => failed 126)
  | .range t x => (match P.underlying t with | some (.map ..) => .mk (r_rng d (trA n x)) | _ => failed 127)
  | .next x false => .mk (r_nxt d (trA n x))
  | .entry x => .mk (r_ent d (trA n x))
  | .typeAssert x _ t ok => (match P.underlying t with | some (.map ..) => .mk (r_tas d t ok (trA n x)) | _ => failed 128)
  | .extract x i => .mk (r_ext d (trA n x) i)
  | .call c => trCall P n d c
  | .defer cl => (match cl.callee, cl.args.toList with | .value f, [] => cond q (failed 129) (.mk (r_dfr d (trA n f))) | _, _ => failed 129)
  | _ => failed 129
inductive Gd | no | on (p : K4) (w : Bool) | bad
noncomputable def trG (ol : List Oper) : Option (Nat × Bool) → Gd
  | none => .no
  | some (j, w) => match (ol[j]?).bind (·.dst) with | some d => cond (slotB d n) (.on (slotK d) w) .bad | none => .bad
noncomputable def guard1 (d : Option K4) (r : Fx) (p : K4) (w : Bool) : Rn := fun ih k env h nx ds => match get4 p env with
    | some (.s (.b b)) => cond (cond w b (bnot b)) (r.run ih k env h nx ds) (k (put d (.t []) env) h nx ds)
    | some (.t []) => k (put d (.t []) env) h nx ds
    | _ => .bad 43
noncomputable def guarded (g : Gd) (d : Option K4) (r : Fx) : Rn := fun ih k env h nx ds =>
  Gd.rec (motive := fun _ => Rs) (r.run ih k env h nx ds) (fun p w => guard1 d r p w ih k env h nx ds) (.bad 43) g
noncomputable def trOps (q : Bool) (ol : List Oper) (l : List Oper) : List Rn := List.rec (motive := fun _ => List Rn) [] (fun o _ r => guarded (trG n ol o.guard) (dstP n o.dst) (trOp P n q (dstP n o.dst) o.op) :: r) l
noncomputable def runL (ih : Ih) (l : List Rn) (k : Kt) : Kt := List.rec (motive := fun _ => Kt) k (fun r _ rest => r ih rest) l
end
noncomputable def endK : Kt := fun env h nx ds => .C .n env h nx ds
noncomputable def beqT : List A1 → List A1 → Bool
  | [], [] => true
  | a :: l, b :: m => beqA a b && beqT l m
  | _, _ => false
noncomputable def beqV : V → V → Bool
  | .s a, .s b => beqS a b
  | .a l, .a m => beqL l m
  | .t l, .t m => beqT l m
  | _, _ => false
noncomputable def beqO : Option V → Option V → Bool
  | some a, some b => beqV a b
  | _, _ => false
inductive Kd | p | r (back fwd : Nat) | e | n
def isNew : Op → Bool
  | .alloc _ | .box .. | .buildSlice .. | .makeSlice .. | .makeMap .. => true
  | _ => false
def isRead : Op → Bool
  | .load .. | .lookup .. | .entry _ | .slice .. | .convert .. | .indexAddr .. => true
  | .call ⟨.builtin .len, _, _⟩ => true
  | .binOp .. => true
  | _ => false
def isPure : Op → Bool
  | .move _ | .assign _ | .pick .. | .build .. | .nilCheck _ | .unOp .. | .fieldAddr .. | .field .. | .index .. | .extract .. | .makeFunc .. | .sliceToArrayPointer .. | .makeInterface .. | .typeAssert .. => true
  | .call ⟨.builtin .min, _, _⟩ | .call ⟨.builtin .max, _, _⟩ => true
  | _ => false
def quietO (o : Op) : Bool := isPure o || isRead o
def kind0 (o : Op) : Nat := cond (isNew o) 3 (cond (isPure o) 0 (cond (isRead o) 1 2))
def bindsOn (o : Oper) : List Nat := o.after.toList.filterMap fun e => cond (Region.binds .any e) (some e.on) none
def clOf : List Oper → List (List Nat) → List (List Nat)
  | [], cl => cl
  | o :: l, cl => clOf l (cl ++ [((bindsOn o).flatMap fun q => q :: cl.getD q []).eraseDups])
def effs (l : List Oper) : List Nat := (l.zipIdx).filterMap fun p => cond (Nat.beq (kind0 p.1.op) 2) (some p.2) none
def news (l : List Oper) : List Nat := (l.zipIdx).filterMap fun p => cond (Nat.beq (kind0 p.1.op) 3) (some p.2) none
def chainB (cl : List (List Nat)) : List Nat → Bool
  | a :: b :: l => (cl.getD b []).contains a && chainB cl (b :: l)
  | _ => true
def madeB (cl : List (List Nat)) (ns es : List Nat) : Bool := es.all fun e => ns.all fun a => !(Nat.blt a e) || (cl.getD e []).contains a
def slotsB (l : List Oper) (cl : List (List Nat)) : Bool := (l.zipIdx).all fun p => (p.1.op.operands.toList ++ (match p.1.guard with | some (j, _) => (match (l[j]?).bind (·.dst) with | some d => [Operand.tmp d] | none => []) | none => [])).all fun x => match x with
  | .tmp t => (l.zipIdx).all fun q => !(q.1.dst == some t) || (cl.getD p.2 []).contains q.2 || (bindsOn q.1).contains p.2
  | _ => true
def kinds (l : List Oper) (cl : List (List Nat)) : List Kd := (l.zipIdx).map fun p =>
  match kind0 p.1.op with
  | 0 => .p
  | 1 => .r (((effs l).filter fun e => Nat.blt e p.2 && !((cl.getD p.2 []).contains e)).length) (((effs l).filter fun e => Nat.blt p.2 e && !((cl.getD e []).contains p.2)).length)
  | 2 => .e
  | _ => .n
def noDefer : Op → Bool
  | .defer _ => false
  | _ => true
def drawB (l : List Oper) (cl : List (List Nat)) : Bool := dstsB l [] && backC l 0 && clB l cl 0 l && chainB cl (effs l) && madeB cl (news l) (effs l) && slotsB l cl && l.all (fun o => noDefer o.op)
structure Rec where
  r : Rn
  env : En
  v : Option V
  d : Option K4
  ec : Nat
  back : Nat
  fwd : Nat
noncomputable def getD (d : Option K4) (env : En) : Option V := match d with | some p => get4 p env | none => none
noncomputable def again (ih : Ih) (ds : List D) (p : Rec) (h : Hp) (nx : Nm) : Bool := match p.r ih endK p.env h nx ds with | .C .n env' _ _ _ => beqO (getD p.d env') p.v | _ => false
noncomputable def agains (ih : Ih) (ds : List D) (p : Rec) : Nat → List (Hp × Nm) → Bool
  | 0, _ => true
  | k + 1, (h, nx) :: l => cond (again ih ds p h nx) (agains ih ds p k l) false
  | _, [] => false
noncomputable def drpH : Nat → List (Hp × Nm) → List (Hp × Nm)
  | 0, l => l
  | k + 1, _ :: l => drpH k l
  | _, [] => []
noncomputable def recsB (ih : Ih) (ds : List D) (S : List (Hp × Nm)) : List Rec → Bool
  | [] => true
  | p :: l => cond (Nat.ble p.back p.ec && agains ih ds p (Nat.add (Nat.add p.back p.fwd) 1) (drpH (Nat.sub p.ec p.back) S)) (recsB ih ds S l) false
noncomputable def addN (k : Nat) (p : Nm) (f : Nm → Rs) : Rs := Nat.rec (motive := fun _ => Nm → Rs) f (fun _ ih p => newK p ih) k p
noncomputable def noHp : Hp := emp8 none
noncomputable def topK : K4 := ⟨.d, .d, .d, .d⟩
noncomputable def topN : Nm := ⟨topK, topK⟩
structure DS where
  env : En
  h : Hp
  res : Nm
  past : List (Hp × Nm)
  ec : Nat
  recs : List Rec
noncomputable def onC5 (r : Rs) (f : En → Hp → Nm → Option DS) : Option DS := match r with | .C .n env h nx _ => f env h nx | _ => none
noncomputable def mrg (d : Option K4) (env' env : En) : En := match d with | some p => mod4 p (fun _ => get4 p env') env | none => env
noncomputable def stepD (ih : Ih) (ds : List D) (o : Kd × Option K4 × Rn) (s : DS) : Option DS := match o.1, s.past with
  | .p, _ => onC5 (o.2.2 ih endK s.env noHp topN ds) fun env _ _ => some { s with env := mrg o.2.1 env s.env }
  | .n, _ => (match get8 s.res s.h with | none => onC5 (o.2.2 ih endK s.env s.h s.res ds) fun env h _ => suc8 s.res (fun res => some { s with env := mrg o.2.1 env s.env, h := h, res := res }) none | some _ => none)
  | .e, (_, nx) :: _ => onC5 (o.2.2 ih endK s.env s.h nx ds) fun env h nx' => some { s with env := mrg o.2.1 env s.env, h := h, past := (h, nx') :: s.past, ec := Nat.succ s.ec }
  | .r back fwd, (hp, nx) :: _ => onC5 (o.2.2 ih endK s.env hp nx ds) fun env' _ _ => some { s with env := mrg o.2.1 env' s.env, recs := cond (Nat.beq (Nat.add back fwd) 0) s.recs (⟨o.2.2, s.env, getD o.2.1 env', o.2.1, s.ec, back, fwd⟩ :: s.recs) }
  | _, [] => none
noncomputable def foldD (ih : Ih) (ds : List D) (l : List (Kd × Option K4 × Rn)) (s : DS) : Option DS := List.rec (motive := fun _ => DS → Option DS) (fun s => some s) (fun o _ go s => Option.rec (motive := fun _ => Option DS) none go (stepD ih ds o s)) l s
noncomputable def zip3 : List Kd → List Oper → List Rn → Nat → List (Kd × Option K4 × Rn)
  | k :: ks, o :: os, r :: rs, n => (k, dstP n o.dst, r) :: zip3 ks os rs n
  | _, _, _, _ => []
noncomputable def runR (P : Program) (n : Nat) (q : Bool) (ih : Ih) (ops : List Oper) : Kt := fun env h nx ds =>
  cond (drawB ops (clOf ops [])) (addN (Nat.succ (news ops).length) nx fun nx1 => match foldD ih ds (zip3 (kinds ops (clOf ops [])) ops (trOps P n q ops ops) n) ⟨env, h, nx, [(h, nx1)], 0, []⟩ with
    | some s => (match s.past with
      | (_, nx') :: _ => cond (recsB ih ds s.past.reverse s.recs) (.C .n s.env s.h nx' ds) (.bad 64)
      | [] => .bad 65)
    | none => .bad 63) (.bad 66)
section
variable (P : Program) (n : Nat)
noncomputable def thenE (e : Ex) (k : Kt) (env : En) (h : Hp) (nx : Nm) (ds : List D) : Rs := Ex.rec (motive := fun _ => Rs) (k env h nx ds) (fun j => .C (.x j) env h nx ds) (.C .r env h nx ds) e
noncomputable def thenK (r : Rs) (k : Kt) : Rs := onE r fun e env h nx ds => thenE e k env h nx ds
noncomputable def blkK (id : Nat) (r : Rs) : Rs := onE r fun e env h nx ds => Ex.rec (motive := fun _ => Rs) (.C .n env h nx ds) (fun j => cond (Nat.beq j id) (.C .n env h nx ds) (.C (.x j) env h nx ds)) (.C .r env h nx ds) e
noncomputable def exCd : Ex → Code | .n => .skip | .x id => .exit id | .r => .ret
noncomputable def hasB (g : FuncId) : Bool := match P.funcs[g]? with | some fn => fn.body.isSome && bnot (fn.name == "runtime.NumGoroutine") | none => false
noncomputable def r_rf (q : Bool) (f : A) (ps : List Nat) (asg body : Code) : Ih → Kt := fun ih env h nx ds => match getA env f with
  | some (.s (.x (.f g caps))) => cond (hasB P g) (
    cond q
      (newK nx fun nx1 => onF (ih (.F g (.s (.x (.y nx)) :: capVs caps) (set8 nx (some (.lp .n n env ps asg body)) h) nx1)) fun _ h2 nx2 => onLp (get8 nx h2) fun e _ _ _ _ _ => .C e env (set8 nx none h2) nx2 ds)
      (newK nx fun nx1 => newK nx1 fun nx2 => onF (ih (.F g (.s (.x (.y nx1)) :: capVs caps) (set8 nx1 (some (.lp .n n env ps asg body)) (set8 nx (some .dm) h)) nx2)) fun _ h2 nx3 => onLp (get8 nx1 h2) fun e _ _ _ _ _ => .C e env (set8 nx1 none h2) nx3 (.mk nx :: ds))) (.bad 44)
  | _ => .bad 44
noncomputable def evC (q : Bool) (c : Code) : Ih → Kt := Code.rec (motive := fun _ => Ih → Kt)
  (fun _ env h nx ds => .C .n env h nx ds)
  (fun _ ops draw ih env h nx ds => cond draw (runR P n q ih ops.toList env h nx ds) (runL ih (trOps P n q ops.toList ops.toList) endK env h nx ds))
  (fun _ _ a b ih env h nx ds => thenK (a ih env h nx ds) (b ih))
  (fun x _ _ a b ih env h nx ds => onB (getA env (trA n x)) fun t => cond t (a ih env h nx ds) (b ih env h nx ds))
  (fun id _ x ih env h nx ds => blkK id (x ih env h nx ds))
  (fun c x ih env h nx ds => thenK (x ih env h nx ds) (fun env h nx ds => ih (.C n q (.loop c) env h nx ds)))
  (fun f ps asg body _ _ ih env h nx ds => r_rf P n q (trA n f) ps.toList asg body ih env h nx ds)
  (fun id ih env h nx ds => .C (.x id) env h nx ds)
  (fun _ x ih env h nx ds => cond q (.bad 45) (x ih env h nx ds))
  (fun _ ih env h nx ds => .C .n env h nx ds)
  (fun _ ih env h nx ds => .bad 46)
  (fun ih env h nx ds => .C .r env h nx ds)
  (fun _ ih env h nx ds => .bad 47) c
end
section
variable (P : Program) (clone cmpB : FuncId) (mo : FuncId → Option (List V → Hp → Nm → Rs))
noncomputable def envFrom : List V → Nat → En → En
  | [], _, t => t
  | v :: l, i, t => envFrom l (i + 1) (mod4 (slotK i) (fun _ => some v) t)
noncomputable def recB (fn : Func) : Option (Nat × Nat × Code) := match fn.body with
  | some (.seq (.region _ ops false) x) => (match ops.toList with
    | [⟨some d1, .call ⟨.builtin .recover, as, _⟩, _, _, _, none⟩, ⟨some d2, .assign (.tmp d3), _, _, _, none⟩] => (match as.toList, fn.results.toList with
      | [], [] => cond (Nat.beq d1 d3 && slotB d1 fn.ntmps && slotB d2 fn.ntmps) (some (d1, d2, x)) none
      | _, _ => none)
    | _ => none)
  | _ => none
noncomputable def leaveD (ih : Ih) : List D → Hp → Nm → Option (Hp × Nm)
  | [], h, nx => some (h, nx)
  | .mk m :: r, h, nx => (match get8 m h with | some .dm => leaveD ih r (set8 m none h) nx | _ => none)
  | [.cl f caps], h, nx => (match P.funcs[f]? with
    | some fn => (match recB fn with
      | some (d1, d2, x) => cond (hasB P f && Nat.ble caps.length fn.ntmps && Nat.ble caps.length 256) (match evC P fn.ntmps false x ih (mod4 (slotK d2) (fun _ => some (.s (.x .nn))) (mod4 (slotK d1) (fun _ => some (.s (.x .nn))) (envFrom (capVs caps) 0 noEnv))) h nx [] with
          | .C .n _ h nx [] => some (h, nx)
          | .C .r _ h nx [] => some (h, nx)
          | _ => none) none
      | none => none)
    | none => none)
  | _, _, _ => none
noncomputable def toA1 : V → Option A1 | .s x => some (.s x) | .a l => some (.a l) | .t _ => none
noncomputable def resL (n : Nat) (env : En) (h : Hp) : List ResultVar → Option (List V)
  | [] => some []
  | .tmp t :: l => (match getA env (trA n (.tmp t)), resL n env h l with | some v, some r => some (v :: r) | _, _ => none)
  | .cell a ty :: l => (match getA env (trA n (.tmp a)), aggT P ty, szT P ty, resL n env h l with
    | some (.s (.p m o)), some ag, some s, some r => (match get8 m h with | some (.c _ _ _ ks) => (match (cut ks o s).bind (mkV ag) with | some v => some (v :: r) | none => none) | _ => none)
    | _, _, _, _ => none)
noncomputable def packV : List V → Option V
  | [v] => some v
  | l => (l.mapM toA1).map V.t
noncomputable def leaveF (fn : Func) (ih : Ih) (r : Rs) : Rs := match r with
  | .C (.x _) _ _ _ _ => .bad 50
  | .C _ env h nx ds => (match leaveD P ih ds h nx with
    | some (h, nx) => (match (resL P fn.ntmps env h fn.results.toList).bind packV with | some v => .F v h nx | none => .bad 51)
    | none => .bad 52)
  | .bad n => .bad n
  | _ => .bad 53
noncomputable def bytesV (h : Hp) (v : V) : Option (List Nat) := match rdS 1 h v with | some (_, l) => l.mapM (fun s => match s with | .i .u8 (.ofNat n) => cond (Nat.blt n 256) (some n) none | _ => none) | none => none
noncomputable def cmpL : List Nat → List Nat → Int
  | [], [] => 0
  | [], _ => -1
  | _, [] => 1
  | a :: l, b :: m => cond (Nat.beq a b) (cmpL l m) (cond (Nat.blt a b) (-1) 1)
noncomputable def extF (f : FuncId) (vs : List V) (h : Hp) (nx : Nm) : Rs :=
  cond (Nat.beq f clone) (match vs with
    | [.s (.x (.im t m))] => (match get8 m h with | some (.m es clk) => newK nx fun nx1 => .F (.s (.x (.im t nx))) (set8 nx (some (.m es clk)) h) nx1 | _ => .bad 54)
    | _ => .bad 54)
  (cond (Nat.beq f cmpB) (match vs with
    | [a, b] => (match bytesV h a, bytesV h b with | some a, some b => .F (.s (.i .i64 (cmpL a b))) h nx | _, _ => .bad 55)
    | _ => .bad 55) (.bad 56))
noncomputable def evF (f : FuncId) (ih : Ih) (vs : List V) (h : Hp) (nx : Nm) : Rs :=
  match mo f with
  | some g => g vs h nx
  | none => match P.funcs[f]? with
  | some fn => (match fn.body with
    | some c => cond (Nat.ble vs.length fn.ntmps && Nat.ble vs.length 256 && bnot (fn.name == "runtime.NumGoroutine")) (leaveF P fn ih (evC P fn.ntmps false c ih (envFrom vs 0 noEnv) h nx [])) (.bad 57)
    | none => extF clone cmpB f vs h nx)
  | none => .bad 58
noncomputable def step (ih : Ih) (c : Cmd) : Rs := Cmd.casesOn (motive := fun _ => Rs) c (fun f vs h nx => evF P clone cmpB mo f ih vs h nx) (fun n q c env h nx ds => evC P n q c ih env h nx ds)
noncomputable def runK (k : Nat) : Cmd → Rs := Nat.rec (motive := fun _ => Cmd → Rs) (fun _ => .bad 59) (fun _ ih => step P clone cmpB mo ih) k
end
end Go.Proofs.YtpcdcemcjbeajaaGreatDoor
