/- WholeFar: FarZ, FarZb, FarZc, FarZd. -/
import Derived.Test.YtpcdcemcjbeajaaGreatDoorWf14
section
set_option linter.unusedVariables false
set_option linter.unusedSimpArgs false
namespace Go.Proofs.YtpcdcemcjbeajaaGreatDoor
open Go Go.RowKit Go.Shelf
inductive Ew
  | tref (id : Nat)
  | call (id : Nat)
  | run (v n : Int)
  | done (id : Nat) (v : Int)
def eRef (id : Nat) : List V1 := [vI .i64 1, vN .u64 id, vI .i64 0, vI .i64 0, vI .i64 0, vI .i64 0]
def Ew.cells : Ew → List V1
  | .tref id => eRef id
  | .call id => eCall id
  | .run v n => eRun v n
  | .done id v => eDone id v
theorem Ew.len (e : Ew) : e.cells.length = 6 := by cases e <;> rfl
def vlW : List Ew → Int
  | [] => 0
  | .run _ n :: l => n + vlW l
  | _ :: l => vlW l
def tdW : List Ew → List Int
  | [] => []
  | .run v _ :: l => v :: tdW l
  | _ :: l => tdW l
def okW1 (l : List Ew) : Ew → Prop
  | .tref _ => True
  | .call _ => True
  | .run v n => v = vlW l + n ∧ -128 ≤ n ∧ n ≤ 127
  | .done _ v => v ∈ tdW l
def okW (l : List Ew) : Prop := ∀ i e, l[i]? = some e → okW1 (l.take i) e
theorem vlW_app : ∀ l m : List Ew, vlW (l ++ m) = vlW l + vlW m
  | [], m => by simp [vlW]
  | .run v n :: l, m => by show n + vlW (l ++ m) = n + vlW l + vlW m; rw [vlW_app l m]; omega
  | .call _ :: l, m => vlW_app l m
  | .tref _ :: l, m => vlW_app l m
  | .done _ _ :: l, m => vlW_app l m
theorem tdW_app : ∀ l m : List Ew, tdW (l ++ m) = tdW l ++ tdW m
  | [], m => rfl
  | .run v n :: l, m => by show v :: tdW (l ++ m) = _; rw [tdW_app l m]; rfl
  | .call _ :: l, m => tdW_app l m
  | .tref _ :: l, m => tdW_app l m
  | .done _ _ :: l, m => tdW_app l m
theorem okW_snoc {l : List Ew} {e : Ew} (h : okW l) (he : okW1 l e) : okW (l ++ [e]) := fun i x hx => by
  by_cases hi : i < l.length
  · rw [List.getElem?_append_left hi] at hx
    rw [List.take_append_of_le_length (by omega)]
    exact h i x hx
  · rw [List.getElem?_append_right (by omega)] at hx
    have h0 : i - l.length = 0 := by
      have := (List.getElem?_eq_some_iff.1 hx).1
      simp at this; omega
    rw [h0] at hx
    have : i = l.length := by omega
    subst this
    cases hx
    rw [List.take_left']
    · exact he
    · rfl
theorem okW_val {l : List Ew} (h : okW l) : -128 * (l.length : Int) ≤ vlW l ∧ vlW l ≤ 127 * (l.length : Int) := by
  suffices ∀ n, n ≤ l.length → -128 * (n : Int) ≤ vlW (l.take n) ∧ vlW (l.take n) ≤ 127 * (n : Int) by
    have := this l.length (Nat.le_refl _)
    rwa [List.take_length] at this
  intro n
  induction n with
  | zero => intro _; simp [vlW]
  | succ n ih =>
    intro hn
    have h0 := ih (by omega)
    have hx : l[n]? = some l[n] := List.getElem?_eq_getElem hn
    rw [List.take_add_one, hx]
    have h1 := h n _ hx
    show _ ≤ vlW (l.take n ++ [l[n]]) ∧ vlW (l.take n ++ [l[n]]) ≤ _
    rw [vlW_app]
    generalize l[n] = e at h1
    cases e with
    | run v m => have h1 : _ ∧ _ := h1; show _ ≤ _ + (m + 0) ∧ _ + (m + 0) ≤ _; omega
    | call id => show _ ≤ _ + 0 ∧ _ + 0 ≤ _; omega
    | tref id => show _ ≤ _ + 0 ∧ _ + 0 ≤ _; omega
    | done id v => show _ ≤ _ + 0 ∧ _ + 0 ≤ _; omega
theorem told_val {l : List Ew} (h : okW l) {v : Int} (hv : v ∈ tdW l) : -128 * (l.length : Int) ≤ v ∧ v ≤ 127 * (l.length : Int) := by
  suffices ∀ n, n ≤ l.length → v ∈ tdW (l.take n) → -128 * (n : Int) ≤ v ∧ v ≤ 127 * (n : Int) from this l.length (Nat.le_refl _) (by rwa [List.take_length])
  intro n
  induction n with
  | zero => intro _ h; simp [tdW] at h
  | succ n ih =>
    intro hn hv
    have hx : l[n]? = some l[n] := List.getElem?_eq_getElem hn
    rw [List.take_add_one, hx] at hv
    have hv : v ∈ tdW (l.take n ++ [l[n]]) := hv
    rw [tdW_app] at hv
    have h1 := h n _ hx
    generalize l[n] = e at h1 hv
    have hk := okW_val (l := l.take n) (fun i e he => by
      have hi := (List.getElem?_eq_some_iff.1 he).1
      rw [List.length_take] at hi
      rw [List.getElem?_take_of_lt (by omega)] at he
      rw [List.take_take, Nat.min_eq_left (by omega)]
      exact h i e he)
    rw [List.length_take, Nat.min_eq_left (by omega)] at hk
    rcases List.mem_append.1 hv with hv | hv
    · have := ih (by omega) hv; omega
    · cases e with
      | run w m =>
        have h1 : w = vlW (l.take n) + m ∧ _ := h1
        have hv : v = w := by simpa [tdW] using hv
        omega
      | call id => simp [tdW] at hv
      | tref id => simp [tdW] at hv
      | done id w => simp [tdW] at hv
theorem eq2_iff {a b x y : Nat} : eq2 a b x y = true ↔ a = x ∧ b = y := by
  unfold eq2
  cases h1 : Nat.beq a x with
  | true =>
    cases h2 : Nat.beq b y with
    | true => exact ⟨fun _ => ⟨Nat.eq_of_beq_eq_true h1, Nat.eq_of_beq_eq_true h2⟩, fun _ => rfl⟩
    | false => exact ⟨fun h => (by cases h), fun h => absurd h.2 (Nat.ne_of_beq_eq_false h2)⟩
  | false => exact ⟨fun h => (by cases h), fun h => absurd h.1 (Nat.ne_of_beq_eq_false h1)⟩
structure NewS (l l' : List Rd3) (a b q : Nat) : Prop where
  at_ : look a b l' = some q
  ne : ∀ c d, ¬ (c = a ∧ d = b) → look c d l' = look c d l
  old : ∀ r, look a b l = some r → q = r + 1
  new : look a b l = none → q = 1
theorem look_cons (a b : Nat) (e : Rd3) (l : List Rd3) : look a b (e :: l) = cond (eq2 a b e.1 e.2.1) (some e.2.2.1) (look a b l) := rfl
theorem newS_set {a b q : Nat} : ∀ {l : List Rd3}, look a b l = some q → NewS l (setL a b (q + 1) l) a b (q + 1)
  | [], h => by cases h
  | e :: l, h => by
    rw [look_cons] at h
    cases he : eq2 a b e.1 e.2.1 with
    | true =>
      rw [he] at h
      have h : some e.2.2.1 = some q := h
      injection h with h
      have hs : setL a b (q + 1) (e :: l) = (a, b, q + 1, e.2.2.2) :: l := by show cond (eq2 a b e.1 e.2.1) _ _ = _; rw [he]; rfl
      obtain ⟨e1, e2⟩ := eq2_iff.1 he
      rw [hs]
      refine ⟨?_, fun c d hn => ?_, fun r hr => ?_, fun hr => ?_⟩
      · rw [look_cons, eq2_iff.2 ⟨rfl, rfl⟩]; rfl
      · rw [look_cons, look_cons]
        have h1 : eq2 c d a b = false := by cases hh : eq2 c d a b with | false => rfl | true => exact absurd (eq2_iff.1 hh) hn
        have h2 : eq2 c d e.1 e.2.1 = false := by rw [← e1, ← e2]; exact h1
        rw [h2]; show cond (eq2 c d a b) _ _ = _; rw [h1]; rfl
      · rw [look_cons, he] at hr; injection hr with hr; omega
      · rw [look_cons, he] at hr; cases hr
    | false =>
      rw [he] at h
      have ih := newS_set (l := l) h
      have hs : setL a b (q + 1) (e :: l) = e :: setL a b (q + 1) l := by show cond (eq2 a b e.1 e.2.1) _ _ = _; rw [he]; rfl
      rw [hs]
      refine ⟨?_, fun c d hn => ?_, fun r hr => ?_, fun hr => ?_⟩
      · rw [look_cons, he]; exact ih.at_
      · rw [look_cons, look_cons, ih.ne c d hn]
      · rw [look_cons, he] at hr; exact ih.old r hr
      · rw [look_cons, he] at hr; exact ih.new hr
theorem newS_app {a b k : Nat} : ∀ {l : List Rd3}, look a b l = none → NewS l (l ++ [(a, b, 1, k)]) a b 1
  | [], h => ⟨by show cond (eq2 a b a b) _ _ = _; rw [eq2_iff.2 ⟨rfl, rfl⟩]; rfl, fun c d hn => (by
      show cond (eq2 c d a b) _ _ = _
      cases hh : eq2 c d a b with
      | false => rfl
      | true => exact absurd (eq2_iff.1 hh) hn), fun r hr => (by cases hr), fun _ => rfl⟩
  | e :: l, h => by
    rw [look_cons] at h
    cases he : eq2 a b e.1 e.2.1 with
    | true => rw [he] at h; cases h
    | false =>
      rw [he] at h
      have ih := newS_app (k := k) (l := l) h
      rw [List.cons_append]
      refine ⟨?_, fun c d hn => ?_, fun r hr => ?_, fun _ => rfl⟩
      · rw [look_cons, he]; exact ih.at_
      · rw [look_cons, look_cons, ih.ne c d hn]
      · rw [look_cons, he] at hr; exact ih.old r hr
structure Qe where
  fr : Nat
  sq : Nat
  cl : Nat
  n : Int
structure Gh where
  qs : List Qe
  evs : List Ew
  sum : Int
  nc : Nat
def unP (p : Pk) : Nat × Nat := match p.kd with | 1 => (p.fr, p.call) | _ => (p.to, p.call)
def unB (s : Sta) : List (Nat × Nat) := match s.t0 with | .bak => [(s.b.bfr, s.b.bcall)] | _ => []
def under (s : Sta) (qs : List Qe) : List (Nat × Nat) := s.net.map unP ++ (qs.map (fun q => (q.fr, q.cl)) ++ unB s)
def waitB (t : Th) : Bool := t.rs.isNone
def unT (i : Nat) (l : List Th) : List (Nat × Nat) := (l.filter waitB).map fun t => (i, t.wt)
def unready : Nat → List Hm → List (Nat × Nat)
  | _, [] => []
  | i, h :: l => unT i h.ths ++ unready (i + 1) l
def penP (p : Pk) : Int := match p.kd with | 1 => p.n | _ => 0
def sumI : List Int → Int
  | [] => 0
  | x :: l => x + sumI l
theorem sumI_app : ∀ l m : List Int, sumI (l ++ m) = sumI l + sumI m
  | [], m => by simp [sumI]
  | x :: l, m => by show x + sumI (l ++ m) = x + sumI l + sumI m; rw [sumI_app l m]; omega
def penT (s : Sta) : Int := match s.t0 with | .cli => s.b.fn | .bak => s.b.bn | _ => 0
def pend (s : Sta) (qs : List Qe) : Int := sumI (s.net.map penP) + (sumI (qs.map Qe.n) + penT s)
def sumN : List Nat → Nat
  | [] => 0
  | x :: l => x + sumN l
theorem sumN_app : ∀ l m : List Nat, sumN (l ++ m) = sumN l + sumN m
  | [], m => by simp [sumN]
  | x :: l, m => by show x + sumN (l ++ m) = x + sumN l + sumN m; rw [sumN_app l m]; omega
def potP (p : Pk) : Nat := match p.kd with | 1 => 5 | _ => 2
def potT : T0 → Nat | .cli => 1 | .bak => 3 | _ => 0
def potH (h : Hm) : Nat := h.ths.countP fun t => t.rs.isSome
def potN (s : Sta) (qs : List Qe) : Nat := sumN (s.net.map potP) + (4 * qs.length + (potT s.t0 + sumN (s.hms.map potH)))
def mkP (p : Pk) : Nat × Nat × Nat := (p.fr, p.to, p.seq)
def mkC (c : Rd3) : Nat × Nat × Nat := (c.1, c.2.1, c.2.2.1)
structure HOk (evs : List Ew) (calls : Nat) (h : Hm) : Prop where
  n4 : h.ths.length ≤ 4
  one : h.many = false → h.ths.length ≤ 1
  nd : (h.ths.map Th.wt).Nodup
  th : ∀ t ∈ h.ths, 0 < t.wt ∧ t.wt ≤ calls ∧ 0 < t.cl ∧ ∀ v, t.rs = some v → v ∈ tdW evs
  lh : LhOk h.lh
def POk (evs : List Ew) (nh calls : Nat) (p : Pk) : Prop := p.call ≤ calls ∧ (p.kd = 1 ∧ p.to = 0 ∧ 1 ≤ p.fr ∧ p.fr ≤ nh ∧ -128 ≤ p.n ∧ p.n ≤ 127 ∨ p.kd = 2 ∧ p.fr = 0 ∧ 1 ≤ p.to ∧ p.to ≤ nh ∧ p.n ∈ tdW evs)
def TOk (s : Sta) : Prop := match s.t0 with
  | .cli => 0 < s.b.fcl ∧ -128 ≤ s.b.fn ∧ s.b.fn ≤ 127
  | .bak => s.rg = true ∧ s.nr = true ∧ 1 ≤ s.b.bfr ∧ s.b.bfr ≤ s.hms.length ∧ s.b.bcall ≤ s.b.calls ∧ -128 ≤ s.b.bn ∧ s.b.bn ≤ 127
  | _ => True
structure Good (s : Sta) (g : Gh) : Prop where
  wf : WF s
  qn : s.b.rc = g.qs.length
  qr : s.rg = true → s.b.rc ≤ s.b.lQ ∧ s.b.rf < s.b.lQ ∧ (s.b.lQ = 4 ∨ s.b.lQ = 12) ∧ ∀ i q, g.qs[i]? = some q → ((s.b.rows 7).drop (((s.b.rf + i) % s.b.lQ) * 25 + 0)).take 25 = qV q.fr q.sq q.cl q.n
  r1 : s.b.rows 1 = g.evs.flatMap Ew.cells
  ok : okW g.evs
  vl : s.b.v = vlW g.evs
  sm : vlW g.evs + pend s g.qs = g.sum
  un : (under s g.qs).Perm (unready 1 s.hms)
  hm : ∀ h ∈ s.hms, HOk g.evs s.b.calls h
  tr : ∀ i h, s.hms[i]? = some h → (h.tr = true ↔ (look (i + 1) 0 s.sent).isSome = true)
  nr : s.nr = false → s.sent = []
  pk : ∀ p ∈ s.net, POk g.evs s.hms.length s.b.calls p
  qk : ∀ q ∈ g.qs, 1 ≤ q.fr ∧ q.fr ≤ s.hms.length ∧ q.cl ≤ s.b.calls ∧ -128 ≤ q.n ∧ q.n ≤ 127
  t0 : TOk s
  mn : (s.net.map mkP ++ s.came.map mkC).Nodup
  ml : ∀ m ∈ s.net.map mkP ++ s.came.map mkC, ∃ q, look m.1 m.2.1 s.sent = some q ∧ m.2.2 ≤ q
  ms : ∀ a b q, look a b s.sent = some q → q ≤ g.evs.length
  po : g.evs.length + 2 * potN s g.qs ≤ 11 * g.nc + 6
  cl : s.b.calls ≤ 2 * g.nc
  nc : g.nc ≤ 40
theorem cells_len : ∀ l : List Ew, (l.flatMap Ew.cells).length = l.length * 6
  | [] => rfl
  | e :: l => by rw [List.flatMap_cons, List.length_append, Ew.len, cells_len l, List.length_cons]; omega
theorem unready_app : ∀ (k1 k2 : List Hm) (i : Nat) (h : Hm), unready i (k1 ++ h :: k2) = unready i k1 ++ (unT (i + k1.length) h.ths ++ unready (i + k1.length + 1) k2)
  | [], k2, i, h => rfl
  | g :: k1, k2, i, h => by
    show unT i g.ths ++ unready (i + 1) (k1 ++ h :: k2) = (unT i g.ths ++ unready (i + 1) k1) ++ _
    rw [unready_app k1 k2 (i + 1) h, List.append_assoc, List.length_cons, show i + 1 + k1.length = i + (k1.length + 1) by omega]
theorem unT_len (i : Nat) (l : List Th) : (unT i l).length ≤ l.length := by
  unfold unT; rw [List.length_map]; exact List.length_filter_le _ _
theorem unready_len : ∀ {l : List Hm} {i : Nat}, (∀ h ∈ l, h.ths.length ≤ 4) → (unready i l).length ≤ 4 * l.length
  | [], i, _ => by simp [unready]
  | h :: l, i, hh => by
    have h1 := unT_len i h.ths
    have h2 := unready_len (l := l) (i := i + 1) fun g hg => hh g (List.mem_cons_of_mem _ hg)
    have h3 := hh h (by simp)
    show (unT i h.ths ++ unready (i + 1) l).length ≤ 4 * (l.length + 1)
    rw [List.length_append]; omega
section
variable {s : Sta} {g : Gh} (hg : Good s g)
include hg
theorem good_lL : s.b.lL = g.evs.length := by
  have h := hg.wf.rL
  rw [hg.r1, cells_len] at h; omega
theorem good_e : g.evs.length ≤ 446 := by have := hg.po; have := hg.nc; omega
theorem good_calls : s.b.calls ≤ 80 := by have := hg.cl; have := hg.nc; omega
theorem good_H : s.hms.length ≤ 3 := by have := hg.wf.bH; have := hg.wf.cH; omega
theorem good_under : s.net.length + (g.qs.length + (unB s).length) ≤ 12 := by
  have h1 := hg.un.length_eq
  have h2 := unready_len (i := 1) (fun h hh => (hg.hm h hh).n4)
  have h3 := good_H hg
  unfold under at h1
  rw [List.length_append, List.length_append, List.length_map, List.length_map] at h1
  omega
theorem good_v : -57088 ≤ s.b.v ∧ s.b.v ≤ 57088 := by
  have h1 := okW_val hg.ok; have h2 := good_e hg
  rw [hg.vl]; omega
theorem good_told {v : Int} (h : v ∈ tdW g.evs) : -57088 ≤ v ∧ v ≤ 57088 := by
  have h1 := told_val hg.ok h; have h2 := good_e hg; omega
end
end Go.Proofs.YtpcdcemcjbeajaaGreatDoor
end
section
set_option linter.unusedVariables false
set_option linter.unusedSimpArgs false
namespace Go.Proofs.YtpcdcemcjbeajaaGreatDoor
open Go Go.RowKit Go.Shelf
theorem told_mono {l m : List Ew} {v : Int} (h : v ∈ tdW l) : v ∈ tdW (l ++ m) := by rw [tdW_app]; exact List.mem_append_left _ h
theorem HOk.mono {l m : List Ew} {c c' : Nat} {h : Hm} (hh : HOk l c h) (hc : c ≤ c') : HOk (l ++ m) c' h := { hh with th := fun t ht => let ⟨a, b, d, e⟩ := hh.th t ht; ⟨a, by omega, d, fun v hv => told_mono (e v hv)⟩ }
theorem POk.mono {l m : List Ew} {n c c' : Nat} {p : Pk} (hp : POk l n c p) (hc : c ≤ c') : POk (l ++ m) n c' p := ⟨by have := hp.1; omega, hp.2.imp id fun ⟨a, b, d, e, f⟩ => ⟨a, b, d, e, told_mono f⟩⟩
theorem get_mid {α : Type} {k1 k2 : List α} {h h' x : α} {i : Nat} (hx : (k1 ++ h' :: k2)[i]? = some x) : i = k1.length ∧ x = h' ∨ i ≠ k1.length ∧ (k1 ++ h :: k2)[i]? = some x := by
  by_cases hi : i = k1.length
  · subst hi
    rw [List.getElem?_append_right (Nat.le_refl _), Nat.sub_self] at hx
    cases hx
    exact .inl ⟨rfl, rfl⟩
  · refine .inr ⟨hi, ?_⟩
    by_cases h1 : i < k1.length
    · rw [List.getElem?_append_left h1] at hx ⊢; exact hx
    · rw [List.getElem?_append_right (by omega)] at hx ⊢
      obtain ⟨j, hj⟩ : ∃ j, i - k1.length = j + 1 := ⟨i - k1.length - 1, by omega⟩
      rw [hj] at hx ⊢
      exact hx
theorem get_at {α : Type} {k1 k2 : List α} {h : α} : (k1 ++ h :: k2)[k1.length]? = some h := by rw [List.getElem?_append_right (Nat.le_refl _), Nat.sub_self]; rfl
theorem len_mid2 {α : Type} {k1 k2 : List α} {h h' : α} : (k1 ++ h :: k2).length = (k1 ++ h' :: k2).length := by simp
theorem mid_all {α : Type} {k1 k2 : List α} {h h' : α} {P Q : α → Prop} (hp : ∀ x ∈ k1 ++ h :: k2, P x) (hq : ∀ x, P x → Q x) (h0 : Q h') : ∀ x ∈ k1 ++ h' :: k2, Q x := fun x hx => by
  rcases List.mem_append.1 hx with hx | hx
  · exact hq _ (hp x (List.mem_append_left _ hx))
  · rcases List.mem_cons.1 hx with rfl | hx
    · exact h0
    · exact hq _ (hp x (List.mem_append_right _ (List.mem_cons_of_mem _ hx)))
theorem potH_mid {k1 k2 : List Hm} {h : Hm} : sumN ((k1 ++ h :: k2).map potH) = sumN (k1.map potH) + (potH h + sumN (k2.map potH)) := by
  rw [List.map_append, sumN_app]; rfl
theorem net_mid {l1 l2 : List Pk} {p : Pk} : sumN ((l1 ++ p :: l2).map potP) = potP p + sumN ((l1 ++ l2).map potP) ∧ sumI ((l1 ++ p :: l2).map penP) = penP p + sumI ((l1 ++ l2).map penP) := by
  simp only [List.map_append, List.map_cons, sumN_app, sumI_app]
  constructor
  · show _ + (potP p + _) = _; omega
  · show _ + (penP p + _) = _; omega
theorem net_snoc {l : List Pk} {p : Pk} : sumN ((l ++ [p]).map potP) = sumN (l.map potP) + potP p ∧ sumI ((l ++ [p]).map penP) = sumI (l.map penP) + penP p := by
  simp only [List.map_append, List.map_cons, sumN_app, sumI_app]
  constructor
  · show _ + (potP p + 0) = _; omega
  · show _ + (penP p + 0) = _; omega
section
variable {s : Sta} {g : Gh}
theorem mk_snoc {p : Pk} {l' : List Rd3} (hg : Good s g) (hn : NewS s.sent l' p.fr p.to p.seq) : ((s.net ++ [p]).map mkP ++ s.came.map mkC).Nodup ∧ ∀ m ∈ (s.net ++ [p]).map mkP ++ s.came.map mkC, ∃ q, look m.1 m.2.1 l' = some q ∧ m.2.2 ≤ q := by
  have hp : ((s.net ++ [p]).map mkP ++ s.came.map mkC).Perm (mkP p :: (s.net.map mkP ++ s.came.map mkC)) := by
    rw [List.map_append, List.append_assoc]; exact List.perm_middle
  have hnew : ∀ m ∈ s.net.map mkP ++ s.came.map mkC, m ≠ mkP p := by
    intro m hm he
    subst he
    obtain ⟨q, h1, h2⟩ := hg.ml _ hm
    have := hn.old q h1
    have h2 : p.seq ≤ q := h2
    omega
  constructor
  · exact (hp.nodup_iff).2 (List.nodup_cons.2 ⟨fun h => hnew _ h rfl, hg.mn⟩)
  · intro m hm
    rcases List.mem_cons.1 (hp.mem_iff.1 hm) with rfl | hm
    · exact ⟨_, hn.at_, Nat.le_refl _⟩
    · obtain ⟨q, h1, h2⟩ := hg.ml _ hm
      by_cases hr : m.1 = p.fr ∧ m.2.1 = p.to
      · rw [hr.1, hr.2] at h1 ⊢
        have := hn.old q h1
        exact ⟨_, hn.at_, by omega⟩
      · exact ⟨q, by rw [hn.ne _ _ hr]; exact h1, h2⟩
theorem ms_snoc {l' : List Rd3} {a b q : Nat} {m : List Ew} (hg : Good s g) (hm : m ≠ []) (hn : NewS s.sent l' a b q) : ∀ c d r, look c d l' = some r → r ≤ (g.evs ++ m).length := fun c d r hr => by
  have hl : 0 < m.length := List.length_pos_iff.2 hm
  rw [List.length_append]
  by_cases hc : c = a ∧ d = b
  · rw [hc.1, hc.2, hn.at_] at hr
    injection hr with hr
    subst hr
    cases ho : look a b s.sent with
    | none => have := hn.new ho; omega
    | some o => have := hn.old o ho; have := hg.ms _ _ _ ho; omega
  · rw [hn.ne c d hc] at hr
    have := hg.ms _ _ _ hr; omega
theorem mk_mid {l1 l2 : List Pk} {p : Pk} {k : Nat} (h : s.net = l1 ++ p :: l2) : (s.net.map mkP ++ s.came.map mkC).Perm ((l1 ++ l2).map mkP ++ (s.came ++ [(p.fr, p.to, p.seq, k)]).map mkC) := by
  classical
  rw [h]
  refine List.perm_iff_count.2 fun z => ?_
  simp only [List.map_append, List.map_cons, List.map_nil, List.count_append, List.count_cons, List.count_nil]
  show _ + (_ + if (mkP p == z) = true then 1 else 0) + _ = _ + _ + (_ + (0 + if (mkP p == z) = true then 1 else 0))
  omega
theorem cm_of {l1 l2 : List Pk} {p : Pk} (hg : Good s g) (h : s.net = l1 ++ p :: l2) : cmK p.fr p.to p.seq s.came = false := by
  cases hc : cmK p.fr p.to p.seq s.came with
  | false => rfl
  | true =>
    obtain ⟨e, he, h1⟩ := List.any_eq_true.1 hc
    obtain ⟨a1, a2, a3⟩ := eq3_t h1
    have hn := hg.mn
    rw [List.nodup_append] at hn
    refine absurd rfl (hn.2.2 (mkP p) (by rw [h]; simp) (mkP p) ?_)
    refine List.mem_map.2 ⟨e, he, ?_⟩
    show (e.1, e.2.1, e.2.2.1) = (p.fr, p.to, p.seq)
    rw [a1, a2, a3]
theorem pkb_of {p : Pk} (hg : Good s g) (hp : p ∈ s.net) : PkB p.fr p.to p.seq p.call p.n := by
  have h1 := hg.pk p hp
  have h2 := good_H hg; have h3 := good_calls hg; have h4 := good_e hg
  obtain ⟨q, h5, h6⟩ := hg.ml (mkP p) (List.mem_append_left _ (List.mem_map.2 ⟨p, hp, rfl⟩))
  have h7 := hg.ms _ _ _ h5
  have h6 : p.seq ≤ q := h6
  have hc := h1.1
  rcases h1.2 with ⟨_, a, b, c, d, e⟩ | ⟨_, a, b, c, d⟩
  · exact ⟨by omega, by omega, by omega, by omega, by omega, by omega, by omega⟩
  · have := good_told hg d
    exact ⟨by omega, by omega, by omega, by omega, by omega, by omega, by omega⟩
end
section
variable {s : Sta} {g : Gh} (hg : Good s g)
include hg
theorem tr_same {k1 k2 : List Hm} {h h' : Hm} (hh : s.hms = k1 ++ h :: k2) (ht : h'.tr = h.tr) : ∀ i x, (k1 ++ h' :: k2)[i]? = some x → (x.tr = true ↔ (look (i + 1) 0 s.sent).isSome = true) := fun i x hx => by
  rcases get_mid (h := h) hx with ⟨rfl, rfl⟩ | ⟨_, hx⟩
  · rw [ht]; exact hg.tr _ h (by rw [hh]; exact get_at)
  · exact hg.tr i x (by rw [hh]; exact hx)
theorem g_same {k1 k2 : List Hm} {h h' : Hm} {s' : Sta} (hh : s.hms = k1 ++ h :: k2) (h1 : h'.ths = h.ths) (h2 : h'.many = h.many) (h3 : h'.tr = h.tr) (h4 : h'.lh = h.lh) (hw : WF s') (hs : s' = { s with hms := k1 ++ h' :: k2, J := s'.J, O := s'.O, b := { s.b with told := s'.b.told } }) : Good s' g := by
  have hm := hg.hm
  have un := hg.un
  have po := hg.po
  have pk := hg.pk
  have qk := hg.qk
  have t0 := hg.t0
  have hl : (k1 ++ h' :: k2).length = s.hms.length := by rw [hh]; exact len_mid2
  have hp : potH h' = potH h := by unfold potH; rw [h1]
  rw [hh] at hm
  rw [hs] at hw ⊢
  refine { hg with wf := hw, un := ?_, hm := mid_all hm (fun _ h => h) ?_, tr := tr_same hg hh h3, pk := ?_, qk := ?_, t0 := ?_, po := ?_ }
  · rw [hh, unready_app] at un
    show (under s g.qs).Perm (unready 1 (k1 ++ h' :: k2))
    rw [unready_app, h1]; exact un
  · have := hm h (by simp)
    exact ⟨by rw [h1]; exact this.n4, by rw [h1, h2]; exact this.one, by rw [h1]; exact this.nd, by rw [h1]; exact this.th, by rw [h4]; exact this.lh⟩
  · show ∀ p ∈ s.net, POk g.evs (k1 ++ h' :: k2).length s.b.calls p; rw [hl]; exact pk
  · show ∀ q ∈ g.qs, 1 ≤ q.fr ∧ q.fr ≤ (k1 ++ h' :: k2).length ∧ _; rw [hl]; exact qk
  · unfold TOk at t0 ⊢
    show match s.t0 with | .cli => _ | .bak => s.rg = true ∧ s.nr = true ∧ 1 ≤ s.b.bfr ∧ s.b.bfr ≤ (k1 ++ h' :: k2).length ∧ _ | _ => True
    rw [hl]; exact t0
  · unfold potN at po ⊢
    rw [hh, potH_mid] at po
    show _ + 2 * (sumN (s.net.map potP) + (_ + (potT s.t0 + sumN ((k1 ++ h' :: k2).map potH)))) ≤ _
    rw [potH_mid, hp]; exact po
theorem g_siR {k1 k2 : List Hm} {h : Hm} {j : Nat} {t : Th} {v : Int} {F : Nat → Nat × Nat} {J K : Nat → List Value} {o : Obj} {tl : V1} {S' : Sta} (hh : s.hms = k1 ++ h :: k2) (hj : h.ths[j]? = some t) (hv : t.rs = some v) (hw : WF S')
    (hS : S' = { s with F := F, hms := k1 ++ { h with J := K, ths := h.ths.eraseIdx j } :: k2, J := J, O := o, b := { s.b with lL := s.b.lL + 1, told := tl, rows := updR s.b.rows 1 (s.b.rows 1 ++ eDone t.cl v) } }) :
    Good S' { g with evs := g.evs ++ [.done t.cl v] } ∧ potN S' g.qs + 1 = potN s g.qs := by
  have hm := hg.hm
  have hl : (k1 ++ { h with J := K, ths := h.ths.eraseIdx j } :: k2).length = s.hms.length := by rw [hh]; exact len_mid2
  have hlt : j < h.ths.length := (List.getElem?_eq_some_iff.1 hj).1
  have ej : h.ths[j] = t := (List.getElem?_eq_some_iff.1 hj).2
  have hpm := perm_era hj
  rw [hh] at hm
  have h0 := hm h (by simp)
  have hsub : (h.ths.eraseIdx j).Sublist h.ths := List.eraseIdx_sublist _ _
  have hpo : potH { h with J := K, ths := h.ths.eraseIdx j } + 1 = potH h := by
    unfold potH
    rw [hpm.countP_eq, List.countP_cons, hv]; rfl
  have hun : unT (1 + k1.length) (h.ths.eraseIdx j) = unT (1 + k1.length) h.ths := by
    unfold unT
    congr 1
    rw [List.eraseIdx_eq_take_drop_succ, List.filter_append]
    conv => rhs; rw [← List.take_append_drop j h.ths, List.filter_append, List.drop_eq_getElem_cons hlt, ej, List.filter_cons_of_neg (by unfold waitB; rw [hv]; exact Bool.false_ne_true)]
  have hpot : potN S' g.qs + 1 = potN s g.qs := by
    have e1 : potN s g.qs = sumN (s.net.map potP) + (4 * g.qs.length + (potT s.t0 + (sumN (k1.map potH) + (potH h + sumN (k2.map potH))))) := by rw [← potH_mid, ← hh]; rfl
    rw [e1, hS]
    show (sumN (s.net.map potP) + (4 * g.qs.length + (potT s.t0 + sumN ((k1 ++ { h with J := K, ths := h.ths.eraseIdx j } :: k2).map potH)))) + 1 = _
    rw [potH_mid]; omega
  have hpo := hg.po
  have hpo' : (g.evs ++ [Ew.done t.cl v]).length + 2 * potN S' g.qs ≤ 11 * g.nc + 6 := by rw [List.length_append]; show g.evs.length + 1 + _ ≤ _; omega
  refine ⟨?_, hpot⟩
  subst hS
  refine { hg with wf := hw, r1 := ?_, ok := okW_snoc hg.ok ((h0.th t (List.mem_of_getElem? hj)).2.2.2 v hv), vl := ?_, sm := ?_, un := ?_, hm := mid_all hm (fun _ h => h.mono (Nat.le_refl _)) ?_, tr := tr_same hg hh rfl, pk := ?_, qk := ?_, t0 := ?_, ms := ?_, po := hpo' }
  · show s.b.rows 1 ++ eDone t.cl v = _
    rw [hg.r1, List.flatMap_append]; rfl
  · show s.b.v = _; rw [vlW_app, hg.vl]; show _ = _ + 0; omega
  · show vlW (g.evs ++ [Ew.done t.cl v]) + pend s g.qs = g.sum
    have := hg.sm
    rw [vlW_app]; show _ + 0 + _ = _; omega
  · have un := hg.un
    rw [hh, unready_app] at un
    show (under s g.qs).Perm (unready 1 (k1 ++ { h with J := K, ths := h.ths.eraseIdx j } :: k2))
    rw [unready_app]
    show (under s g.qs).Perm (unready 1 k1 ++ (unT (1 + k1.length) (h.ths.eraseIdx j) ++ _))
    rw [hun]; exact un
  · exact ⟨Nat.le_trans hsub.length_le h0.n4, fun hm => Nat.le_trans hsub.length_le (h0.one hm), h0.nd.sublist (hsub.map _), fun u hu => let ⟨a, b, c, d⟩ := h0.th u (hsub.subset hu); ⟨a, b, c, fun w hw => told_mono (d w hw)⟩, h0.lh⟩
  · show ∀ p ∈ s.net, POk _ (k1 ++ { h with J := K, ths := h.ths.eraseIdx j } :: k2).length s.b.calls p; rw [hl]; exact fun p hp => (hg.pk p hp).mono (Nat.le_refl _)
  · show ∀ q ∈ g.qs, 1 ≤ q.fr ∧ q.fr ≤ (k1 ++ { h with J := K, ths := h.ths.eraseIdx j } :: k2).length ∧ _; rw [hl]; exact hg.qk
  · have t0 := hg.t0
    unfold TOk at t0 ⊢
    show match s.t0 with | .cli => _ | .bak => s.rg = true ∧ s.nr = true ∧ 1 ≤ s.b.bfr ∧ s.b.bfr ≤ (k1 ++ { h with J := K, ths := h.ths.eraseIdx j } :: k2).length ∧ _ | _ => True
    rw [hl]; exact t0
  · exact fun a b q hq => by have := hg.ms a b q hq; rw [List.length_append]; exact Nat.le_trans this (Nat.le_add_right _ _)
end
end Go.Proofs.YtpcdcemcjbeajaaGreatDoor
end
section
set_option linter.unusedVariables false
set_option linter.unusedSimpArgs false
namespace Go.Proofs.YtpcdcemcjbeajaaGreatDoor
open Go Go.RowKit Go.Shelf
def qP (p : Pk) : Qe := ⟨p.fr, p.seq, p.call, p.n⟩
theorem TOk.hms {s : Sta} {nh : Nat} (h : TOk s) (hn : s.hms.length = nh) : match s.t0 with
    | .cli => 0 < s.b.fcl ∧ -128 ≤ s.b.fn ∧ s.b.fn ≤ 127
    | .bak => s.rg = true ∧ s.nr = true ∧ 1 ≤ s.b.bfr ∧ s.b.bfr ≤ nh ∧ s.b.bcall ≤ s.b.calls ∧ -128 ≤ s.b.bn ∧ s.b.bn ≤ 127
    | _ => True := by subst hn; exact h
theorem unT_set {i j : Nat} {t : Th} {l : List Th} {v : Int} (hj : l[j]? = some t) (hv : t.rs = none) : (unT i l).Perm ((i, t.wt) :: unT i (l.set j { t with rs := some v })) := by
  have hlt := (List.getElem?_eq_some_iff.1 hj).1
  have ej : l[j] = t := (List.getElem?_eq_some_iff.1 hj).2
  unfold unT
  rw [List.set_eq_take_append_cons_drop, if_pos hlt, List.filter_append, List.filter_cons_of_neg (by unfold waitB; exact Bool.false_ne_true)]
  conv => lhs; rw [← List.take_append_drop j l, List.filter_append, List.drop_eq_getElem_cons hlt, ej, List.filter_cons_of_pos (by unfold waitB; rw [hv]; rfl)]
  rw [List.map_append, List.map_append, List.map_cons]
  exact List.perm_middle
theorem potH_set {j : Nat} {t : Th} {l : List Th} {v : Int} (hj : l[j]? = some t) (hv : t.rs = none) : (l.set j { t with rs := some v }).countP (fun t => t.rs.isSome) = l.countP (fun t => t.rs.isSome) + 1 := by
  have hlt := (List.getElem?_eq_some_iff.1 hj).1
  have ej : l[j] = t := (List.getElem?_eq_some_iff.1 hj).2
  rw [List.set_eq_take_append_cons_drop, if_pos hlt, List.countP_append, List.countP_cons_of_pos (by rfl)]
  conv => rhs; rw [← List.take_append_drop j l, List.countP_append, List.drop_eq_getElem_cons hlt, ej, List.countP_cons_of_neg (by rw [hv]; decide)]
  omega
section
variable {s : Sta} {g : Gh} (hg : Good s g)
include hg
theorem g_dr {k1 k2 : List Hm} {h : Hm} {j : Nat} {t : Th} {l1 l2 : List Pk} {p : Pk} {J K : Nat → List Value} {o : Obj} {S' : Sta} (hh : s.hms = k1 ++ h :: k2) (hnet : s.net = l1 ++ p :: l2) (hj : h.ths[j]? = some t) (hv : t.rs = none) (hwt : t.wt = p.call) (hkd : p.kd = 2) (hto : p.to = k1.length + 1) (hnr : s.nr = true) (hw : WF S')
    (hS : S' = { s with nr := true, net := l1 ++ l2, came := s.came ++ [(p.fr, p.to, p.seq, s.cck)], cck := s.cck + 1, hms := k1 ++ { h with J := K, ths := h.ths.set j { t with rs := some p.n } } :: k2, J := J, O := o, b := { s.b with told := vS none 0 0, lR := s.b.lR - 1, rows := updR s.b.rows 3 (cutR (s.b.rows 3) l1.length) } }) :
    Good S' g ∧ potN S' g.qs + 1 = potN s g.qs := by
  have hm := hg.hm
  have hl : (k1 ++ { h with J := K, ths := h.ths.set j { t with rs := some p.n } } :: k2).length = s.hms.length := by rw [hh]; exact len_mid2
  rw [hh] at hm
  have h0 := hm h (by simp)
  have hp : p ∈ s.net := by rw [hnet]; simp
  have hpk := (hg.pk p hp).2
  have htold : p.n ∈ tdW g.evs := by
    rcases hpk with h | h
    · omega
    · exact h.2.2.2.2
  have hmk := mk_mid (k := s.cck) hnet
  have hpot : potN S' g.qs + 1 = potN s g.qs := by
    have e0 : potN s g.qs = potP p + sumN ((l1 ++ l2).map potP) + (4 * g.qs.length + (potT s.t0 + (sumN (k1.map potH) + (potH h + sumN (k2.map potH))))) := by rw [← potH_mid, ← hh, ← net_mid.1, ← hnet]; rfl
    rw [e0, hS]
    show (sumN ((l1 ++ l2).map potP) + (4 * g.qs.length + (potT s.t0 + sumN ((k1 ++ { h with J := K, ths := h.ths.set j { t with rs := some p.n } } :: k2).map potH)))) + 1 = _
    rw [potH_mid]
    have e1 : potH { h with J := K, ths := h.ths.set j { t with rs := some p.n } } = potH h + 1 := potH_set hj hv
    have e2 : potP p = 2 := by unfold potP; rw [hkd]; rfl
    omega
  have hpo := hg.po
  have hpo' : g.evs.length + 2 * potN S' g.qs ≤ 11 * g.nc + 6 := by omega
  refine ⟨?_, hpot⟩
  have hsm := hg.sm
  have e3 : penP p = 0 := by unfold penP; rw [hkd]; rfl
  have hun := hg.un
  subst hS
  refine { hg with wf := hw, sm := ?_, un := ?_, hm := mid_all hm (fun _ h => h) ?_, tr := tr_same hg hh rfl, nr := fun h => (by cases h), pk := ?_, qk := ?_, t0 := ?_, mn := ?_, ml := ?_, po := ?_ }
  · show _ + (sumI ((l1 ++ l2).map penP) + (_ + penT s)) = _
    unfold pend at hsm
    rw [hnet, net_mid.2, e3] at hsm
    show vlW g.evs + (sumI ((l1 ++ l2).map penP) + (sumI (g.qs.map Qe.n) + penT s)) = g.sum
    omega
  · classical
    rw [hh, unready_app] at hun
    unfold under at hun
    rw [hnet] at hun
    show ((l1 ++ l2).map unP ++ (g.qs.map (fun q => (q.fr, q.cl)) ++ unB s)).Perm (unready 1 (k1 ++ { h with J := K, ths := h.ths.set j { t with rs := some p.n } } :: k2))
    rw [unready_app]
    refine List.perm_iff_count.2 fun z => ?_
    have c1 := hun.count_eq z
    have c2 := (unT_set (i := 1 + k1.length) (v := p.n) hj hv).count_eq z
    have e4 : unP p = (1 + k1.length, t.wt) := by unfold unP; rw [hkd, hto, hwt, Nat.add_comm]; rfl
    simp only [List.map_append, List.map_cons, List.count_append, List.count_cons, e4] at c1 c2 ⊢
    omega
  · refine ⟨by rw [List.length_set]; exact h0.n4, by rw [List.length_set]; exact h0.one, ?_, fun u hu => ?_, h0.lh⟩
    · rw [List.map_set, show Th.wt { t with rs := some p.n } = t.wt from rfl, set_id (by rw [List.getElem?_map, hj]; rfl)]
      exact h0.nd
    · rcases List.mem_or_eq_of_mem_set hu with hu | rfl
      · exact h0.th u hu
      · obtain ⟨a, b, c, _⟩ := h0.th t (List.mem_of_getElem? hj)
        exact ⟨a, b, c, fun v hv => by cases hv; exact htold⟩
  · show ∀ q ∈ l1 ++ l2, POk _ (k1 ++ _ :: k2).length s.b.calls q; rw [hl]; exact fun q hq => hg.pk q (by rw [hnet]; exact mem_mid hq)
  · show ∀ q ∈ g.qs, 1 ≤ q.fr ∧ q.fr ≤ (k1 ++ _ :: k2).length ∧ _; rw [hl]; exact hg.qk
  · have := hg.t0.hms hl.symm
    rw [hnr] at this
    exact this
  · exact (hmk.nodup_iff).1 hg.mn
  · exact fun m hm => hg.ml m (hmk.mem_iff.2 hm)
  · exact hpo'
theorem g_dc {l1 l2 : List Pk} {p : Pk} {F : Nat → Nat × Nat} {J : Nat → List Value} {o : Obj} {lQ rf : Nat} {r3 R : List V1} {S' : Sta} (hnet : s.net = l1 ++ p :: l2) (hkd : p.kd = 1) (hw : WF S')
    (hS : S' = { s with F := F, nr := true, net := l1 ++ l2, came := s.came ++ [(p.fr, p.to, p.seq, s.cck)], cck := s.cck + 1, rg := true, J := J, O := o, b := { s.b with told := vS none 0 0, lR := s.b.lR - 1, rows := updR (updR s.b.rows 3 r3) 7 R, lQ := lQ, rf := rf, rc := s.b.rc + 1 } })
    (hQ : s.b.rc + 1 ≤ lQ ∧ rf < lQ ∧ (lQ = 4 ∨ lQ = 12)) (hR : ∀ i q, (g.qs ++ [qP p])[i]? = some q → (R.drop (((rf + i) % lQ) * 25 + 0)).take 25 = qV q.fr q.sq q.cl q.n) :
    Good S' { g with qs := g.qs ++ [qP p] } ∧ potN S' (g.qs ++ [qP p]) + 1 = potN s g.qs := by
  have hp : p ∈ s.net := by rw [hnet]; simp
  have hpk := hg.pk p hp
  have hmk := mk_mid (k := s.cck) hnet
  have e2 : potP p = 5 := by unfold potP; rw [hkd]; rfl
  have e3 : penP p = p.n := by unfold penP; rw [hkd]; rfl
  have e4 : unP p = (p.fr, p.call) := by unfold unP; rw [hkd]; rfl
  have hpot : potN S' (g.qs ++ [qP p]) + 1 = potN s g.qs := by
    have e0 : potN s g.qs = potP p + sumN ((l1 ++ l2).map potP) + (4 * g.qs.length + (potT s.t0 + sumN (s.hms.map potH))) := by rw [← net_mid.1, ← hnet]; rfl
    have el : (g.qs ++ [qP p]).length = g.qs.length + 1 := by rw [List.length_append]; rfl
    rw [e0, hS]
    unfold potN
    rw [el]
    show (sumN ((l1 ++ l2).map potP) + (4 * (g.qs.length + 1) + (potT s.t0 + sumN (s.hms.map potH)))) + 1 = _
    omega
  have hpo := hg.po
  have hpo' : g.evs.length + 2 * potN S' (g.qs ++ [qP p]) ≤ 11 * g.nc + 6 := by omega
  refine ⟨?_, hpot⟩
  have hsm := hg.sm
  have hun := hg.un
  have t0 := hg.t0
  subst hS
  refine { hg with wf := hw, qn := ?_, qr := fun _ => ⟨hQ.1, hQ.2.1, hQ.2.2, hR⟩, sm := ?_, un := ?_, nr := fun h => (by cases h), pk := fun q hq => hg.pk q (by rw [hnet]; exact mem_mid hq), qk := ?_, t0 := ?_, mn := (hmk.nodup_iff).1 hg.mn, ml := fun m hm => hg.ml m (hmk.mem_iff.2 hm), po := hpo' }
  · show s.b.rc + 1 = _; rw [hg.qn, List.length_append]; rfl
  · unfold pend at hsm
    rw [hnet, net_mid.2, e3] at hsm
    show vlW g.evs + (sumI ((l1 ++ l2).map penP) + (sumI ((g.qs ++ [qP p]).map Qe.n) + penT s)) = g.sum
    have e5 : sumI ((g.qs ++ [qP p]).map Qe.n) = sumI (g.qs.map Qe.n) + p.n := by rw [List.map_append, sumI_app]; show _ + (p.n + 0) = _; omega
    rw [e5]
    omega
  · classical
    unfold under at hun
    rw [hnet] at hun
    show ((l1 ++ l2).map unP ++ ((g.qs ++ [qP p]).map (fun q => (q.fr, q.cl)) ++ unB s)).Perm _
    refine List.perm_iff_count.2 fun z => ?_
    have c1 := hun.count_eq z
    simp only [List.map_append, List.map_cons, List.map_nil, List.count_append, List.count_cons, List.count_nil, e4, show (qP p).fr = p.fr from rfl, show (qP p).cl = p.call from rfl] at c1 ⊢
    show _ = List.count z (unready 1 s.hms)
    omega
  · intro q hq
    rcases List.mem_append.1 hq with hq | hq
    · exact hg.qk q hq
    · rw [List.mem_singleton.1 hq]
      rcases hpk.2 with h | h
      · exact ⟨h.2.2.1, h.2.2.2.1, hpk.1, h.2.2.2.2⟩
      · omega
  · unfold TOk at t0 ⊢
    show match s.t0 with | .cli => _ | .bak => true = true ∧ true = true ∧ _ | _ => True
    cases h : s.t0 with
    | bak => rw [h] at t0; exact ⟨rfl, rfl, t0.2.2⟩
    | cli => rw [h] at t0; exact t0
    | nil => trivial
    | row => trivial
end
end Go.Proofs.YtpcdcemcjbeajaaGreatDoor
end
section
set_option linter.unusedVariables false
set_option linter.unusedSimpArgs false
namespace Go.Proofs.YtpcdcemcjbeajaaGreatDoor
open Go Go.RowKit Go.Shelf
theorem ms_mono {s : Sta} {g : Gh} (hg : Good s g) (m : List Ew) : ∀ a b q, look a b s.sent = some q → q ≤ (g.evs ++ m).length := fun a b q h => by
  have := hg.ms a b q h; rw [List.length_append]; omega
theorem hms_mono {s : Sta} {g : Gh} (hg : Good s g) (m : List Ew) {c : Nat} (hc : s.b.calls ≤ c) : ∀ h ∈ s.hms, HOk (g.evs ++ m) c h := fun h hh => (hg.hm h hh).mono hc
theorem pk_mono {s : Sta} {g : Gh} (hg : Good s g) (m : List Ew) {c : Nat} (hc : s.b.calls ≤ c) : ∀ p ∈ s.net, POk (g.evs ++ m) s.hms.length c p := fun p hp => (hg.pk p hp).mono hc
theorem setR_get {l v : List V1} {a b m : Nat} (hl : l.length = m * 25) (hv : v.length = 25) (ha : a < m) (hb : b < m) (hn : a ≠ b) : ((setR l (a * 25 + 0) v).drop (b * 25 + 0)).take 25 = (l.drop (b * 25 + 0)).take 25 := by
  refine List.ext_getElem? fun i => ?_
  rw [List.getElem?_take, List.getElem?_take]
  split
  · rw [List.getElem?_drop, List.getElem?_drop]
    unfold setR
    by_cases h1 : b * 25 + 0 + i < a * 25
    · rw [List.getElem?_append_left (by rw [List.length_take]; omega), List.getElem?_take_of_lt (by omega)]
    · have h2 : a * 25 + 25 ≤ b * 25 + i := by omega
      rw [List.getElem?_append_right (by rw [List.length_take]; omega), List.length_take, Nat.min_eq_left (by omega), List.getElem?_append_right (by omega), hv, List.getElem?_drop]
      congr 1
      omega
  · rfl
theorem setR_at {l v : List V1} {a m : Nat} (hl : l.length = m * 25) (hv : v.length = 25) (ha : a < m) : ((setR l (a * 25 + 0) v).drop (a * 25 + 0)).take 25 = v := by
  unfold setR
  rw [List.drop_left' (by rw [List.length_take]; omega), ← hv, List.take_left]
section
variable {s : Sta} {g : Gh} (hg : Good s g)
include hg
theorem g_cli {F : Nat → Nat × Nat} {J : Nat → List Value} {o : Obj} {tl : V1} {S' : Sta} (ht : s.t0 = .cli) (hw : WF S')
    (hS : S' = { s with F := F, t0 := .row, J := J, O := o, b := { s.b with v := s.b.v + s.b.fn, lL := s.b.lL + 2, told := tl, rows := updR s.b.rows 1 (s.b.rows 1 ++ (eRun (s.b.v + s.b.fn) s.b.fn ++ eDone s.b.fcl (s.b.v + s.b.fn))) } }) :
    Good S' { g with evs := g.evs ++ [.run (s.b.v + s.b.fn) s.b.fn, .done s.b.fcl (s.b.v + s.b.fn)] } ∧ potN S' g.qs + 1 = potN s g.qs := by
  have t0 := hg.t0
  unfold TOk at t0
  rw [ht] at t0
  have t0 : 0 < s.b.fcl ∧ -128 ≤ s.b.fn ∧ s.b.fn ≤ 127 := t0
  have hpot : potN S' g.qs + 1 = potN s g.qs := by
    unfold potN
    rw [hS, ht]
    show (sumN (s.net.map potP) + (4 * g.qs.length + (0 + sumN (s.hms.map potH)))) + 1 = sumN (s.net.map potP) + (4 * g.qs.length + (1 + sumN (s.hms.map potH)))
    omega
  have hpo := hg.po
  have hpo' : (g.evs ++ [Ew.run (s.b.v + s.b.fn) s.b.fn, .done s.b.fcl (s.b.v + s.b.fn)]).length + 2 * potN S' g.qs ≤ 11 * g.nc + 6 := by rw [List.length_append]; show g.evs.length + 2 + _ ≤ _; omega
  refine ⟨?_, hpot⟩
  have hsm := hg.sm
  have hun := hg.un
  unfold pend penT at hsm
  unfold under unB at hun
  rw [ht] at hsm hun
  have hok : okW (g.evs ++ [Ew.run (s.b.v + s.b.fn) s.b.fn, .done s.b.fcl (s.b.v + s.b.fn)]) := by
    have h1 : okW (g.evs ++ [Ew.run (s.b.v + s.b.fn) s.b.fn]) := okW_snoc hg.ok ⟨by rw [hg.vl], t0.2.1, t0.2.2⟩
    have := okW_snoc (e := .done s.b.fcl (s.b.v + s.b.fn)) h1 (by show _ ∈ tdW _; rw [tdW_app]; simp [tdW])
    rwa [List.append_assoc] at this
  have hval : vlW (g.evs ++ [Ew.run (s.b.v + s.b.fn) s.b.fn, .done s.b.fcl (s.b.v + s.b.fn)]) = s.b.v + s.b.fn := by
    rw [vlW_app, hg.vl]; show _ + (s.b.fn + 0) = _; omega
  subst hS
  refine { hg with wf := hw, r1 := ?_, ok := hok, vl := hval.symm, sm := ?_, un := hun, hm := hms_mono hg _ (Nat.le_refl _), pk := pk_mono hg _ (Nat.le_refl _), t0 := trivial, ms := ms_mono hg _, po := hpo' }
  · show s.b.rows 1 ++ _ = _
    rw [hg.r1, List.flatMap_append]; rfl
  · rw [hval]
    show s.b.v + s.b.fn + (sumI (s.net.map penP) + (sumI (g.qs.map Qe.n) + 0)) = g.sum
    have h := hg.vl
    have hsm : vlW g.evs + (sumI (s.net.map penP) + (sumI (g.qs.map Qe.n) + s.b.fn)) = g.sum := hsm
    omega
theorem g_disp {q : Qe} {qs : List Qe} {J : Nat → List Value} {o : Obj} {F : Nat → Nat × Nat} {S' : Sta} (hq : g.qs = q :: qs) (ht : potT s.t0 = 0) (hr : s.rg = true) (hn : s.nr = true) (hw : WF S')
    (hS : S' = { s with F := F, t0 := .bak, rg := true, J := J, O := o, b := { s.b with told := vS none 0 0, rf := (s.b.rf + 1) % s.b.lQ, rc := s.b.rc - 1, bfr := q.fr, bseq := q.sq, bcall := q.cl, bn := q.n, rows := updR s.b.rows 7 (setR (s.b.rows 7) (s.b.rf * 25 + 0) zV) } }) :
    Good S' { g with qs := qs } ∧ potN S' qs + 1 = potN s g.qs := by
  obtain ⟨hq1, hq2, hq3, hq4⟩ := hg.qr hr
  have hqn := hg.qn
  have hq0 := hg.qk q (by rw [hq]; simp)
  rw [hq, List.length_cons] at hqn
  have hpot : potN S' qs + 1 = potN s g.qs := by
    unfold potN
    rw [hS, hq, ht]
    show (sumN (s.net.map potP) + (4 * qs.length + (3 + sumN (s.hms.map potH)))) + 1 = sumN (s.net.map potP) + (4 * (qs.length + 1) + (0 + sumN (s.hms.map potH)))
    omega
  have hpo := hg.po
  have hpo' : g.evs.length + 2 * potN S' qs ≤ 11 * g.nc + 6 := by omega
  refine ⟨?_, hpot⟩
  have hp : penT s = 0 ∧ unB s = [] := by
    unfold penT unB
    cases h : s.t0 <;> rw [h] at ht <;> first | exact ⟨rfl, rfl⟩ | cases ht
  have hsm := hg.sm
  have hun := hg.un
  unfold pend at hsm
  unfold under at hun
  rw [hp.1, hq] at hsm
  rw [hp.2, hq] at hun
  have h7 := hg.wf.rQ hr
  subst hS
  refine { hg with wf := hw, qn := (by show s.b.rc - 1 = qs.length; omega), qr := fun _ => ⟨by show s.b.rc - 1 ≤ s.b.lQ; omega, Nat.mod_lt _ (by omega), hq3, fun i u hu => ?_⟩, sm := ?_, un := ?_, qk := fun u hu => hg.qk u (by rw [hq]; exact List.mem_cons_of_mem _ hu), t0 := ⟨rfl, hn, hq0⟩, po := hpo' }
  · have hi : i < qs.length := (List.getElem?_eq_some_iff.1 hu).1
    have h0 := hq4 (i + 1) u (by rw [hq]; exact hu)
    show ((setR (s.b.rows 7) (s.b.rf * 25 + 0) zV).drop ((((s.b.rf + 1) % s.b.lQ + i) % s.b.lQ) * 25 + 0)).take 25 = _
    have e : ((s.b.rf + 1) % s.b.lQ + i) % s.b.lQ = (s.b.rf + (i + 1)) % s.b.lQ := by rw [Nat.mod_add_mod]; congr 1; omega
    have hne : s.b.rf ≠ (s.b.rf + (i + 1)) % s.b.lQ := by
      intro h
      rcases hq3 with h4 | h4 <;> rw [h4] at h hq2 hq1 <;> omega
    rw [e, setR_get h7 rfl hq2 (Nat.mod_lt _ (by omega)) hne, h0]
  · show vlW g.evs + (sumI (s.net.map penP) + (sumI (qs.map Qe.n) + q.n)) = g.sum
    have hsm : vlW g.evs + (sumI (s.net.map penP) + ((q.n + sumI (qs.map Qe.n)) + 0)) = g.sum := hsm
    omega
  · classical
    show (s.net.map unP ++ (qs.map (fun q : Qe => (q.fr, q.cl)) ++ [(q.fr, q.cl)])).Perm (unready 1 s.hms)
    refine List.perm_iff_count.2 fun z => ?_
    have c1 := hun.count_eq z
    simp only [List.map_cons, List.count_append, List.count_cons, List.count_nil] at c1 ⊢
    omega
theorem g_bak {p : Pk} {l' : List Rd3} {ck : Nat} {J : Nat → List Value} {o : Obj} {F : Nat → Nat × Nat} {tl : V1} {r3 : List V1} {S' : Sta} (ht : s.t0 = .bak) (hp : p.kd = 2 ∧ p.fr = 0 ∧ p.to = s.b.bfr ∧ p.call = s.b.bcall ∧ p.n = s.b.v + s.b.bn) (hn : NewS s.sent l' p.fr p.to p.seq) (hw : WF S')
    (hS : S' = { s with F := F, t0 := .row, nr := true, rg := true, net := s.net ++ [p], sent := l', sck := ck, J := J, O := o, b := { s.b with v := s.b.v + s.b.bn, lL := s.b.lL + 1, lR := s.b.lR + 1, told := tl, rows := updR (updR s.b.rows 1 (s.b.rows 1 ++ eRun (s.b.v + s.b.bn) s.b.bn)) 3 r3 } }) :
    Good S' { g with evs := g.evs ++ [.run (s.b.v + s.b.bn) s.b.bn] } ∧ potN S' g.qs + 1 = potN s g.qs := by
  have t0 := hg.t0
  unfold TOk at t0
  rw [ht] at t0
  have t0 : s.rg = true ∧ s.nr = true ∧ 1 ≤ s.b.bfr ∧ s.b.bfr ≤ s.hms.length ∧ s.b.bcall ≤ s.b.calls ∧ -128 ≤ s.b.bn ∧ s.b.bn ≤ 127 := t0
  have e2 : potP p = 2 := by unfold potP; rw [hp.1]; rfl
  have e3 : penP p = 0 := by unfold penP; rw [hp.1]; rfl
  have e4 : unP p = (s.b.bfr, s.b.bcall) := by unfold unP; rw [hp.1, hp.2.2.1, hp.2.2.2.1]; rfl
  have hpot : potN S' g.qs + 1 = potN s g.qs := by
    unfold potN
    rw [hS, ht]
    show (sumN ((s.net ++ [p]).map potP) + (4 * g.qs.length + (0 + sumN (s.hms.map potH)))) + 1 = sumN (s.net.map potP) + (4 * g.qs.length + (3 + sumN (s.hms.map potH)))
    rw [net_snoc.1]; omega
  have hpo := hg.po
  have hpo' : (g.evs ++ [Ew.run (s.b.v + s.b.bn) s.b.bn]).length + 2 * potN S' g.qs ≤ 11 * g.nc + 6 := by rw [List.length_append]; show g.evs.length + 1 + _ ≤ _; omega
  refine ⟨?_, hpot⟩
  have hsm := hg.sm
  have hun := hg.un
  unfold pend penT at hsm
  unfold under unB at hun
  rw [ht] at hsm hun
  have hok : okW (g.evs ++ [Ew.run (s.b.v + s.b.bn) s.b.bn]) := okW_snoc hg.ok ⟨by rw [hg.vl], t0.2.2.2.2.2.1, t0.2.2.2.2.2.2⟩
  have hval : vlW (g.evs ++ [Ew.run (s.b.v + s.b.bn) s.b.bn]) = s.b.v + s.b.bn := by rw [vlW_app, hg.vl]; show _ + (s.b.bn + 0) = _; omega
  have hmk := mk_snoc hg hn
  have hms := ms_snoc (m := [Ew.run (s.b.v + s.b.bn) s.b.bn]) hg (by simp) hn
  subst hS
  refine { hg with wf := hw, qr := fun _ => hg.qr t0.1, r1 := ?_, ok := hok, vl := hval.symm, sm := ?_, un := ?_, hm := hms_mono hg _ (Nat.le_refl _), tr := ?_, nr := fun h => (by cases h), pk := ?_, t0 := trivial, mn := hmk.1, ml := hmk.2, ms := hms, po := hpo' }
  · show s.b.rows 1 ++ _ = _
    rw [hg.r1, List.flatMap_append]; rfl
  · rw [hval]
    show s.b.v + s.b.bn + (sumI ((s.net ++ [p]).map penP) + (sumI (g.qs.map Qe.n) + 0)) = g.sum
    rw [net_snoc.2, e3]
    have h := hg.vl
    have hsm : vlW g.evs + (sumI (s.net.map penP) + (sumI (g.qs.map Qe.n) + s.b.bn)) = g.sum := hsm
    omega
  · classical
    show ((s.net ++ [p]).map unP ++ (g.qs.map (fun q : Qe => (q.fr, q.cl)) ++ [])).Perm (unready 1 s.hms)
    have hun : (s.net.map unP ++ (g.qs.map (fun q : Qe => (q.fr, q.cl)) ++ [(s.b.bfr, s.b.bcall)])).Perm (unready 1 s.hms) := hun
    refine List.perm_iff_count.2 fun z => ?_
    have c1 := hun.count_eq z
    simp only [List.map_append, List.map_cons, List.map_nil, List.count_append, List.count_cons, List.count_nil, e4] at c1 ⊢
    omega
  · intro i h hh
    show h.tr = true ↔ (look (i + 1) 0 l').isSome = true
    rw [hn.ne (i + 1) 0 (by rw [hp.2.1]; omega)]
    exact hg.tr i h hh
  · intro u hu
    rcases List.mem_append.1 hu with hu | hu
    · exact pk_mono hg _ (Nat.le_refl _) u hu
    · rw [List.mem_singleton.1 hu]
      refine ⟨by rw [hp.2.2.2.1]; exact t0.2.2.2.2.1, .inr ⟨hp.1, hp.2.1, by rw [hp.2.2.1]; exact t0.2.2.1, by rw [hp.2.2.1]; exact t0.2.2.2.1, ?_⟩⟩
      rw [hp.2.2.2.2, tdW_app]; simp [tdW]
theorem g_c0 {n : Int} {J : Nat → List Value} {o : Obj} {F : Nat → Nat × Nat} {tl : V1} {S' : Sta} (ht : potT s.t0 = 0) (hnc : g.nc < 40) (hn : -128 ≤ n ∧ n ≤ 127) (hw : WF S')
    (hS : S' = { s with F := F, t0 := .cli, J := J, O := o, b := { s.b with calls := s.b.calls + 1, lL := s.b.lL + 1, fn := n, fcl := s.b.calls + 1, told := tl, rows := updR s.b.rows 1 (s.b.rows 1 ++ eCall (s.b.calls + 1)) } }) :
    Good S' { g with evs := g.evs ++ [.call (s.b.calls + 1)], sum := g.sum + n, nc := g.nc + 1 } := by
  have hp : penT s = 0 ∧ unB s = [] := by
    unfold penT unB
    cases h : s.t0 <;> rw [h] at ht <;> first | exact ⟨rfl, rfl⟩ | cases ht
  have hpo := hg.po
  have hsm := hg.sm
  have hun := hg.un
  have hcl := hg.cl
  unfold pend at hsm
  unfold under at hun
  rw [hp.1] at hsm
  rw [hp.2] at hun
  subst hS
  refine { hg with wf := hw, r1 := ?_, ok := okW_snoc hg.ok trivial, vl := ?_, sm := ?_, un := hun, hm := hms_mono hg _ (Nat.le_succ _), pk := pk_mono hg _ (Nat.le_succ _), qk := fun q hq => ?_, t0 := ⟨Nat.succ_pos _, hn⟩, ms := ms_mono hg _, po := ?_, cl := (by show s.b.calls + 1 ≤ 2 * (g.nc + 1); omega), nc := (by show g.nc + 1 ≤ 40; omega) }
  · show s.b.rows 1 ++ _ = _
    rw [hg.r1, List.flatMap_append]; rfl
  · show s.b.v = _; rw [vlW_app, hg.vl]; show _ = _ + 0; omega
  · show vlW (g.evs ++ [Ew.call _]) + (sumI (s.net.map penP) + (sumI (g.qs.map Qe.n) + n)) = g.sum + n
    rw [vlW_app]
    show _ + 0 + _ = _
    omega
  · have := hg.qk q hq
    exact ⟨this.1, this.2.1, by show q.cl ≤ s.b.calls + 1; omega, this.2.2.2⟩
  · unfold potN at hpo
    rw [ht] at hpo
    show (g.evs ++ [Ew.call _]).length + 2 * (sumN (s.net.map potP) + (4 * g.qs.length + (1 + sumN (s.hms.map potH)))) ≤ 11 * (g.nc + 1) + 6
    rw [List.length_append]
    show g.evs.length + 1 + _ ≤ _
    omega
theorem g_ci {k1 k2 : List Hm} {h h' : Hm} {p : Pk} {l' : List Rd3} {ck r u : Nat} {n : Int} {J : Nat → List Value} {o : Obj} {F : Nat → Nat × Nat} {tl : V1} {r3 : List V1} {S' : Sta} (hh : s.hms = k1 ++ h :: k2) (hnc : g.nc < 40) (hn : -128 ≤ n ∧ n ≤ 127) (h1 : h'.ths = h.ths ++ [⟨r, u, s.b.calls + 1, s.b.calls + 2, none⟩]) (h2 : h'.many = h.many) (h3 : h'.tr = true) (h5 : h'.lh = h.lh) (hfree : (h.many = true → h.ths.length < 4) ∧ (h.many = false → h.ths.length = 0)) (hp : p.kd = 1 ∧ p.fr = k1.length + 1 ∧ p.to = 0 ∧ p.call = s.b.calls + 1 ∧ p.n = n) (hN : NewS s.sent l' p.fr p.to p.seq) (hw : WF S')
    (hS : S' = { s with F := F, nr := true, net := s.net ++ [p], sent := l', sck := ck, hms := k1 ++ h' :: k2, J := J, O := o, b := { s.b with calls := s.b.calls + 2, lL := s.b.lL + 1, lR := s.b.lR + 1, told := tl, rows := updR (updR s.b.rows 1 (s.b.rows 1 ++ eCall (s.b.calls + 2))) 3 r3 } }) :
    Good S' { g with evs := g.evs ++ [.call (s.b.calls + 2)], sum := g.sum + n, nc := g.nc + 1 } := by
  have hm := hg.hm
  have hl : (k1 ++ h' :: k2).length = s.hms.length := by rw [hh]; exact len_mid2
  rw [hh] at hm
  have h0 := hm h (by simp)
  have e2 : potP p = 5 := by unfold potP; rw [hp.1]; rfl
  have e3 : penP p = n := by unfold penP; rw [hp.1, hp.2.2.2.2]; rfl
  have e4 : unP p = (1 + k1.length, s.b.calls + 1) := by unfold unP; rw [hp.1, hp.2.1, hp.2.2.2.1, Nat.add_comm]; rfl
  have hk : k1.length + 1 ≤ s.hms.length := by rw [hh, List.length_append, List.length_cons]; omega
  have hpo := hg.po
  have hsm := hg.sm
  have hun := hg.un
  have hcl := hg.cl
  have t0 := hg.t0
  have hmk := mk_snoc hg hN
  have hms := ms_snoc (m := [Ew.call (s.b.calls + 2)]) hg (by simp) hN
  subst hS
  refine { hg with wf := hw, r1 := ?_, ok := okW_snoc hg.ok trivial, vl := ?_, sm := ?_, un := ?_, hm := mid_all hm (fun _ h => h.mono (by show s.b.calls ≤ s.b.calls + 2; omega)) ?_, tr := ?_, nr := fun h => (by cases h), pk := ?_, qk := fun q hq => ?_, t0 := ?_, mn := hmk.1, ml := hmk.2, ms := hms, po := ?_, cl := (by show s.b.calls + 2 ≤ 2 * (g.nc + 1); omega), nc := (by show g.nc + 1 ≤ 40; omega) }
  · show s.b.rows 1 ++ _ = _
    rw [hg.r1, List.flatMap_append]; rfl
  · show s.b.v = _; rw [vlW_app, hg.vl]; show _ = _ + 0; omega
  · unfold pend at hsm
    show vlW (g.evs ++ [Ew.call _]) + (sumI ((s.net ++ [p]).map penP) + (sumI (g.qs.map Qe.n) + penT s)) = g.sum + n
    rw [vlW_app, net_snoc.2, e3]
    show _ + 0 + _ = _
    omega
  · classical
    unfold under at hun
    rw [hh, unready_app] at hun
    show ((s.net ++ [p]).map unP ++ (g.qs.map (fun q : Qe => (q.fr, q.cl)) ++ unB s)).Perm (unready 1 (k1 ++ h' :: k2))
    have e5 : unT (1 + k1.length) h'.ths = unT (1 + k1.length) h.ths ++ [(1 + k1.length, s.b.calls + 1)] := by
      unfold unT; rw [h1, List.filter_append, List.map_append]; rfl
    rw [unready_app, e5]
    refine List.perm_iff_count.2 fun z => ?_
    have c1 := hun.count_eq z
    simp only [List.map_append, List.map_cons, List.map_nil, List.count_append, List.count_cons, List.count_nil, e4] at c1 ⊢
    omega
  · have hlen : h'.ths.length = h.ths.length + 1 := by rw [h1, List.length_append]; rfl
    refine ⟨?_, fun hm => ?_, ?_, fun t ht => ?_, by rw [h5]; exact h0.lh⟩
    · rw [hlen]
      cases hmn : h.many with
      | true => have := hfree.1 hmn; omega
      | false => have := hfree.2 hmn; omega
    · rw [h2] at hm; have := hfree.2 hm; omega
    · rw [h1, List.map_append, List.nodup_append]
      refine ⟨h0.nd, by simp, fun a ha b hb => ?_⟩
      obtain ⟨t, ht, rfl⟩ := List.mem_map.1 ha
      have := (h0.th t ht).2.1
      have hb : b = s.b.calls + 1 := by simpa using hb
      omega
    · rw [h1] at ht
      rcases List.mem_append.1 ht with ht | ht
      · obtain ⟨a, b, c, d⟩ := h0.th t ht
        exact ⟨a, by show t.wt ≤ s.b.calls + 2; omega, c, fun v hv => told_mono (d v hv)⟩
      · rw [List.mem_singleton.1 ht]
        exact ⟨Nat.succ_pos _, by show s.b.calls + 1 ≤ s.b.calls + 2; omega, Nat.succ_pos _, fun v hv => by cases hv⟩
  · intro i x hx
    show x.tr = true ↔ (look (i + 1) 0 l').isSome = true
    rcases get_mid (h := h) hx with ⟨rfl, rfl⟩ | ⟨hi, hx⟩
    · rw [h3]
      have := hN.at_
      rw [hp.2.1, hp.2.2.1] at this
      rw [this]; simp
    · rw [hN.ne (i + 1) 0 (by rw [hp.2.1]; omega)]
      exact hg.tr i x (by rw [hh]; exact hx)
  · intro q hq
    show POk _ (k1 ++ h' :: k2).length _ q
    rw [hl]
    rcases List.mem_append.1 hq with hq | hq
    · exact pk_mono hg _ (by show s.b.calls ≤ s.b.calls + 2; omega) q hq
    · rw [List.mem_singleton.1 hq]
      exact ⟨by rw [hp.2.2.2.1]; show s.b.calls + 1 ≤ s.b.calls + 2; omega, .inl ⟨hp.1, hp.2.2.1, by omega, by rw [hp.2.1]; exact hk, by rw [hp.2.2.2.2]; exact hn.1, by rw [hp.2.2.2.2]; exact hn.2⟩⟩
  · have := hg.qk q hq
    show 1 ≤ q.fr ∧ q.fr ≤ (k1 ++ h' :: k2).length ∧ q.cl ≤ s.b.calls + 2 ∧ _
    rw [hl]
    exact ⟨this.1, this.2.1, by omega, this.2.2.2⟩
  · have t0 := t0.hms hl.symm
    unfold TOk
    show match s.t0 with | .cli => _ | .bak => s.rg = true ∧ true = true ∧ 1 ≤ s.b.bfr ∧ s.b.bfr ≤ (k1 ++ h' :: k2).length ∧ s.b.bcall ≤ s.b.calls + 2 ∧ _ | _ => True
    cases hx : s.t0 with
    | bak => rw [hx] at t0; exact ⟨t0.1, rfl, t0.2.2.1, t0.2.2.2.1, by have := t0.2.2.2.2.1; omega, t0.2.2.2.2.2⟩
    | cli => rw [hx] at t0; exact t0
    | nil => trivial
    | row => trivial
  · unfold potN at hpo ⊢
    rw [hh, potH_mid] at hpo
    have e6 : potH h' = potH h := by unfold potH; rw [h1, List.countP_append]; rfl
    show (g.evs ++ [Ew.call _]).length + 2 * (sumN ((s.net ++ [p]).map potP) + (4 * g.qs.length + (potT s.t0 + sumN ((k1 ++ h' :: k2).map potH)))) ≤ 11 * (g.nc + 1) + 6
    rw [List.length_append, net_snoc.1, potH_mid, e6, e2]
    show g.evs.length + 1 + _ ≤ _
    omega
end
end Go.Proofs.YtpcdcemcjbeajaaGreatDoor
end
