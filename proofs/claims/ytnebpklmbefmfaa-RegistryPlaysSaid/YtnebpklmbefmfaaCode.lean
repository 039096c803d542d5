/- Instructions as data; what a row of them comes to, in plain Lean. No program in sight. -/
import Derived.Test.YtnebpklmbefmfaaInts
set_option linter.unusedVariables false
set_option linter.unusedSimpArgs false
namespace Go.Proofs.Ytnebpklmbefmfaa
open Go.RowKit
structure Ins where
  op : Int
  a : Int
  b : Int
  deriving DecidableEq
def Ins.cells (x : Ins) : List Value := [.int .i64 x.op, .int .i64 x.a, .int .i64 x.b]
theorem Ins.len (x : Ins) : x.cells.length = 3 := rfl
theorem Ins.one (x : Ins) : ∀ u ∈ x.cells, u.oneCell' = true := by
  intro u hu
  simp only [Ins.cells, List.mem_cons, List.not_mem_nil, or_false] at hu
  rcases hu with rfl | rfl | rfl <;> rfl
abbrev icells : List Ins → List Value := ecells Ins.cells
theorem eqg_ins : Try.prog.eqGuardType Try.prog.depth 77 = false := by kernel_rfl
theorem eq_ins (x y : Ins) : EqR Try.prog 10000 77 (.agg x.cells.toArray) (.agg y.cells.toArray) (x = y) := by
  refine (EqR.struct (d := 9999) Try.underlying77 (by kernel_rfl) (FldsR.cons (by decide) (p := x.op = y.op) ⟨.int .i64 x.op, .int .i64 y.op, part_s sc3 rfl, part_s sc3 rfl, EqR.int (d := 9998) Try.underlying3⟩
    (FldsR.cons (by decide) (p := x.a = y.a) ⟨.int .i64 x.a, .int .i64 y.a, part_s sc3 rfl, part_s sc3 rfl, EqR.int (d := 9998) Try.underlying3⟩
    (FldsR.cons (by decide) (p := x.b = y.b) ⟨.int .i64 x.b, .int .i64 y.b, part_s sc3 rfl, part_s sc3 rfl, EqR.int (d := 9998) Try.underlying3⟩ FldsR.nil)))).congr ?_
  constructor
  · rintro ⟨h1, h2, h3, _⟩; cases x; cases y; simp_all
  · rintro rfl; exact ⟨rfl, rfl, rfl, trivial⟩
/-! What an instruction takes, lays, and whether it may be. -/
def takeP (op : Int) : Int := if op = 5 then 2 else if op = 4 ∨ op = 6 ∨ op = 7 ∨ op = 8 ∨ op = 11 then 1 else 0
def layP (op : Int) : Int := if op = 1 ∨ op = 2 ∨ op = 3 ∨ op = 5 ∨ op = 6 ∨ op = 8 then 1 else 0
def okP (x : Ins) (s : Int) : Bool :=
  if x.op = 1 then decide (-2147483648 ≤ x.a ∧ x.a ≤ 2147483647 ∧ x.b = 0)
  else if x.op = 7 then decide (1 ≤ x.a ∧ x.b = 0)
  else if x.op = 8 then decide (0 ≤ x.a ∧ x.a < s ∧ 0 ≤ x.b ∧ x.b < 8)
  else if x.op = 9 ∨ x.op = 10 then decide (0 ≤ x.a ∧ x.a < s ∧ x.b = 0)
  else if 2 ≤ x.op ∧ x.op ≤ 11 then decide (x.a = 0 ∧ x.b = 0) else false
theorem takeP_range (op : Int) : 0 ≤ takeP op ∧ takeP op ≤ 2 := by
  unfold takeP; split
  · omega
  · split <;> omega
theorem layP_range (op : Int) : 0 ≤ layP op ∧ layP op ≤ 1 := by unfold layP; split <;> omega
def leftP (x : Ins) (h : Int) : Int := h - takeP x.op + layP x.op
def goesP (x : Ins) (k i : Nat) : Bool := decide (x.op ≠ 11 ∧ (i = k + 1 ∨ (x.op = 7 ∧ x.a = (i : Int) - k - 1)))
/-- A mark: nothing goes on there yet (0), one more than the height, or a clash (-1). -/
def mk (m left : Int) : Int := if m ≠ 0 ∧ m ≠ left + 1 then -1 else left + 1
def markN (l : List Ins) (H : List Int) : Nat → Nat → Int
  | 0, t => if t = 0 then 1 else 0
  | n + 1, t => match l[n]?, H[n]? with
    | some x, some h => if goesP x n t then mk (markN l H n t) (leftP x h) else markN l H n t
    | _, _ => markN l H n t
/-- What is wrong at place i = H.length, if anything. -/
def wrongAt (l : List Ins) (s : Int) (x : Ins) (i : Nat) (m : Int) : Option Int :=
  if okP x s = false ∨ m < 1 ∨ m - 1 < takeP x.op ∨ (x.op = 11 ∧ m - 1 ≠ 1) then some 5
  else if 8 < leftP x (m - 1) then some 16
  else if x.op ≠ 11 ∧ ((l.length : Int) ≤ i + 1 ∨ (x.op = 7 ∧ (l.length : Int) - i - 1 ≤ x.a)) then some 5 else none
def stepP (l : List Ins) (s : Int) (H : List Int) : Option Int := match l[H.length]? with
  | some x => wrongAt l s x H.length (markN l H H.length H.length)
  | none => some 5
def hts (l : List Ins) (s : Int) : Nat → List Int
  | 0 => []
  | n + 1 => if (hts l s n).length = n ∧ stepP l s (hts l s n) = none then hts l s n ++ [markN l (hts l s n) n n - 1] else hts l s n
/-- The heights, the place that is wrong, why. -/
def heightP (l : List Ins) (s : Int) : List Int × Int × Int :=
  if l.length < 1 ∨ 32 < l.length then ([], 0, 20)
  else match (if (hts l s l.length).length = l.length then none else stepP l s (hts l s l.length)) with
    | some e => (hts l s l.length, ((hts l s l.length).length : Int), e)
    | none => (hts l s l.length, 0, 0)
def mostN (l : List Ins) (H : List Int) : Nat → Int
  | 0 => 0
  | n + 1 => match l[n]?, H[n]? with
    | some x, some h => max (mostN l H n) (leftP x h)
    | _, _ => mostN l H n
def mostP (l : List Ins) (H : List Int) : Int := mostN l H H.length
theorem mostN_step {l : List Ins} {H : List Int} {n : Nat} {x : Ins} {h : Int} (hx : l[n]? = some x) (hh : H[n]? = some h) : mostN l H (n + 1) = max (mostN l H n) (leftP x h) := by simp only [mostN]; rw [hx, hh]
def checkP (l : List Ins) (s : Int) : Int × Int × Int := if (heightP l s).2.2 ≠ 0 then (0, (heightP l s).2.1, (heightP l s).2.2) else (mostP l (heightP l s).1, 0, 0)
/-! Facts. -/
theorem wrongAt_ne {l : List Ins} {s : Int} {x : Ins} {i : Nat} {m e : Int} (h : wrongAt l s x i m = some e) : e = 5 ∨ e = 16 := by
  unfold wrongAt at h
  split at h
  · injection h with h; exact .inl h.symm
  · split at h
    · injection h with h; exact .inr h.symm
    · split at h
      · injection h with h; exact .inl h.symm
      · cases h
theorem stepP_ne {l : List Ins} {s : Int} {H : List Int} {e : Int} (h : stepP l s H = some e) : e = 5 ∨ e = 16 := by
  unfold stepP at h
  split at h
  · exact wrongAt_ne h
  · injection h with h; exact .inl h.symm
theorem hts_le (l : List Ins) (s : Int) : ∀ n, (hts l s n).length ≤ n
  | 0 => Nat.le_refl _
  | n + 1 => by
    have := hts_le l s n
    simp only [hts]; split
    · simp; omega
    · omega
theorem hts_stuck {l : List Ins} {s : Int} {n : Nat} (h : (hts l s n).length < n) : ∀ m, n ≤ m → hts l s m = hts l s n := by
  intro m hm
  induction m with
  | zero => obtain rfl : n = 0 := by omega
            rfl
  | succ m ih =>
    rcases Nat.lt_or_ge m n with h1 | h1
    · obtain rfl : n = m + 1 := by omega
      rfl
    · have := ih h1
      simp only [hts]
      rw [this, if_neg]
      rintro ⟨h2, _⟩; omega
theorem hts_wrong {l : List Ins} {s : Int} {n : Nat} (hn : (hts l s n).length = n) {e : Int} (h : stepP l s (hts l s n) = some e) : ∀ m, n ≤ m → hts l s m = hts l s n := by
  intro m hm
  rcases Nat.eq_or_lt_of_le hm with rfl | hlt
  · rfl
  · have h1 : hts l s (n + 1) = hts l s n := by simp only [hts]; rw [if_neg (by rw [h]; simp)]
    rw [hts_stuck (n := n + 1) (by rw [h1]; omega) m hlt, h1]
theorem hts_next {l : List Ins} {s : Int} {n : Nat} (hn : (hts l s n).length = n) (h : stepP l s (hts l s n) = none) : hts l s (n + 1) = hts l s n ++ [markN l (hts l s n) n n - 1] := by
  simp only [hts]; rw [if_pos ⟨hn, h⟩]
theorem hts_len_mono {l : List Ins} {s : Int} {n m : Nat} (hm : (hts l s m).length = m) (h : n ≤ m) : (hts l s n).length = n := by
  rcases Nat.lt_or_ge (hts l s n).length n with h1 | h1
  · rw [hts_stuck h1 m h] at hm; omega
  · have := hts_le l s n; omega
theorem hts_none {l : List Ins} {s : Int} {n m : Nat} (hm : (hts l s m).length = m) (h : n < m) : stepP l s (hts l s n) = none := by
  cases hs : stepP l s (hts l s n) with
  | none => rfl
  | some e =>
    have h1 := hts_wrong (hts_len_mono hm (by omega)) hs m (by omega)
    have h2 := hts_le l s n
    rw [h1] at hm; omega
theorem hts_pre {l : List Ins} {s : Int} {n m : Nat} (h : n ≤ m) : ∃ r, hts l s m = hts l s n ++ r := by
  induction m with
  | zero => obtain rfl : n = 0 := by omega
            exact ⟨[], by simp⟩
  | succ m ih =>
    rcases Nat.lt_or_ge m n with h1 | h1
    · obtain rfl : n = m + 1 := by omega
      exact ⟨[], by simp⟩
    · obtain ⟨r, hr⟩ := ih h1
      simp only [hts]; split
      · exact ⟨r ++ [markN l (hts l s m) m m - 1], by rw [hr]; simp⟩
      · exact ⟨r, hr⟩
theorem markN_ext (l : List Ins) {H H' : List Int} : ∀ n t, (∀ k, k < n → H[k]? = H'[k]?) → markN l H n t = markN l H' n t
  | 0, t, _ => rfl
  | n + 1, t, h => by
    simp only [markN]
    rw [h n (by omega), markN_ext l n t (fun k hk => h k (by omega))]
theorem markN_app (l : List Ins) (H r : List Int) {n t : Nat} (hn : n ≤ H.length) : markN l (H ++ r) n t = markN l H n t :=
  markN_ext l n t (fun k hk => by rw [List.getElem?_append_left (by omega)])
theorem heightP_wrong {l : List Ins} {s : Int} (hl : ¬ (l.length < 1 ∨ 32 < l.length)) {g : Nat} (hg : (hts l s g).length = g) (hgl : g < l.length) {e : Int} (h : stepP l s (hts l s g) = some e) : heightP l s = (hts l s g, (g : Int), e) := by
  unfold heightP
  rw [if_neg hl, hts_wrong hg h l.length (by omega), hg, if_neg (by omega), h]
theorem heightP_ok {l : List Ins} {s : Int} (hl : ¬ (l.length < 1 ∨ 32 < l.length)) (hg : (hts l s l.length).length = l.length) : heightP l s = (hts l s l.length, 0, 0) := by
  unfold heightP
  rw [if_neg hl, if_pos hg]
theorem heightP_len {l : List Ins} {s : Int} (hl : l.length < 1 ∨ 32 < l.length) : heightP l s = ([], 0, 20) := if_pos hl
theorem stepP_at {l : List Ins} {s : Int} {H : List Int} {g : Nat} {x : Ins} (hH : H.length = g) (hx : l[g]? = some x) : stepP l s H = wrongAt l s x g (markN l H g g) := by
  unfold stepP; rw [hH, hx]
theorem markN_step {l : List Ins} {H : List Int} {g t : Nat} {x : Ins} {h : Int} (hx : l[g]? = some x) (hh : H[g]? = some h) : markN l H (g + 1) t = if goesP x g t then mk (markN l H g t) (leftP x h) else markN l H g t := by
  simp only [markN]; rw [hx, hh]
theorem wrongAt_none {l : List Ins} {s : Int} {x : Ins} {i : Nat} {m : Int} (h : wrongAt l s x i m = none) : okP x s = true ∧ 1 ≤ m ∧ takeP x.op ≤ m - 1 ∧ (x.op = 11 → m - 1 = 1) ∧ leftP x (m - 1) ≤ 8 ∧ (x.op ≠ 11 → (i : Int) + 1 < l.length) ∧ (x.op = 7 → x.a < (l.length : Int) - i - 1) := by
  unfold wrongAt at h
  split at h
  · cases h
  · rename_i h1
    split at h
    · cases h
    · rename_i h2
      split at h
      · cases h
      · rename_i h3
        refine ⟨?_, by omega, by omega, fun h4 => by omega, by omega, fun h4 => by omega, fun h4 => by omega⟩
        cases ho : okP x s with
        | true => rfl
        | false => exact absurd (.inl ho) h1
/-- Every instruction that was gone through. -/
theorem hts_fine {l : List Ins} {s : Int} : ∀ n k h, (hts l s n)[k]? = some h → ∃ x, l[k]? = some x ∧ wrongAt l s x k (h + 1) = none ∧ h = markN l (hts l s n) k k - 1 := by
  intro n
  induction n with
  | zero => intro k h hk; simp [hts] at hk
  | succ n ih =>
    intro k h hk
    by_cases hc : (hts l s n).length = n ∧ stepP l s (hts l s n) = none
    · rw [hts_next hc.1 hc.2] at hk ⊢
      rcases Nat.lt_or_ge k n with hlt | hge
      · rw [List.getElem?_append_left (by omega)] at hk
        obtain ⟨x, h1, h2, h3⟩ := ih k h hk
        exact ⟨x, h1, h2, by rw [markN_app l _ _ (by omega)]; exact h3⟩
      · rw [List.getElem?_append_right (by omega), hc.1] at hk
        have h4 := (List.getElem?_eq_some_iff.1 hk).1
        simp at h4
        obtain rfl : k = n := by omega
        simp at hk
        have hs := hc.2
        unfold stepP at hs
        rw [hc.1] at hs
        cases hx : l[k]? with
        | none => rw [hx] at hs; cases hs
        | some x =>
          rw [hx] at hs
          refine ⟨x, rfl, ?_, ?_⟩
          · rw [← hk]; simpa using hs
          · rw [markN_app l _ _ (by omega)]; exact hk.symm
    · have : hts l s (n + 1) = hts l s n := by simp only [hts]; rw [if_neg hc]
      rw [this] at hk ⊢
      exact ih k h hk
theorem left_range {l : List Ins} {s : Int} {n k : Nat} {h : Int} {x : Ins} (hk : (hts l s n)[k]? = some h) (hx : l[k]? = some x) : 0 ≤ h ∧ h ≤ 10 ∧ 0 ≤ leftP x h ∧ leftP x h ≤ 8 := by
  obtain ⟨y, h1, h2, h3⟩ := hts_fine n k h hk
  rw [hx] at h1; obtain rfl := Option.some.inj h1
  obtain ⟨_, h4, h5, _, h6, _⟩ := wrongAt_none h2
  have := takeP_range x.op
  have := layP_range x.op
  rw [show h + 1 - 1 = h by omega] at h5 h6
  unfold leftP at h6 ⊢
  omega
theorem markN_range {l : List Ins} {s : Int} {m : Nat} : ∀ n t, -1 ≤ markN l (hts l s m) n t ∧ markN l (hts l s m) n t ≤ 9
  | 0, t => by simp only [markN]; split <;> omega
  | n + 1, t => by
    have ih := markN_range (l := l) (s := s) (m := m) n t
    simp only [markN]
    cases hx : l[n]? with
    | none => simpa using ih
    | some x =>
      cases hh : (hts l s m)[n]? with
      | none => simpa using ih
      | some h =>
        simp only []
        have := left_range hh hx
        split
        · unfold mk; split <;> omega
        · exact ih
theorem shape_eq {x : Ins} {s a b : Int} {o : Bool} (h1 : a = takeP x.op) (h2 : b = layP x.op) (h3 : o = okP x s) : (Value.tuple #[.int .i64 a, .int .i64 b, .bool o]) = .tuple #[.int .i64 (takeP x.op), .int .i64 (layP x.op), .bool (okP x s)] := by rw [h1, h2, h3]
theorem wrong5 {l : List Ins} {s : Int} {x : Ins} {i : Nat} {m : Int} (h : okP x s = false ∨ m < 1 ∨ m - 1 < takeP x.op ∨ (x.op = 11 ∧ m - 1 ≠ 1)) : wrongAt l s x i m = some 5 := if_pos h
theorem wrong16 {l : List Ins} {s : Int} {x : Ins} {i : Nat} {m : Int} (ho : okP x s = true) (h : ¬ (m < 1 ∨ m - 1 < takeP x.op ∨ (x.op = 11 ∧ m - 1 ≠ 1))) (h2 : 8 < leftP x (m - 1)) : wrongAt l s x i m = some 16 := by
  unfold wrongAt; rw [if_neg (by rw [ho]; simpa using h), if_pos h2]
theorem wrong5c {l : List Ins} {s : Int} {x : Ins} {i : Nat} {m : Int} (ho : okP x s = true) (h : ¬ (m < 1 ∨ m - 1 < takeP x.op ∨ (x.op = 11 ∧ m - 1 ≠ 1))) (h2 : ¬ 8 < leftP x (m - 1)) (h3 : x.op ≠ 11 ∧ ((l.length : Int) ≤ i + 1 ∨ (x.op = 7 ∧ (l.length : Int) - i - 1 ≤ x.a))) : wrongAt l s x i m = some 5 := by
  unfold wrongAt; rw [if_neg (by rw [ho]; simpa using h), if_neg h2, if_pos h3]
theorem wrong0 {l : List Ins} {s : Int} {x : Ins} {i : Nat} {m : Int} (ho : okP x s = true) (h : ¬ (m < 1 ∨ m - 1 < takeP x.op ∨ (x.op = 11 ∧ m - 1 ≠ 1))) (h2 : ¬ 8 < leftP x (m - 1)) (h3 : ¬ (x.op ≠ 11 ∧ ((l.length : Int) ≤ i + 1 ∨ (x.op = 7 ∧ (l.length : Int) - i - 1 ≤ x.a)))) : wrongAt l s x i m = none := by
  unfold wrongAt; rw [if_neg (by rw [ho]; simpa using h), if_neg h2, if_neg h3]
theorem stepP_of {l : List Ins} {s : Int} {g : Nat} {x : Ins} {r : Option Int} (hg : (hts l s g).length = g) (hx : l[g]? = some x) (h : wrongAt l s x g (markN l (hts l s g) g g) = r) : stepP l s (hts l s g) = r := by rw [stepP_at hg hx]; exact h
/-- A clash stays one. -/
theorem clash_stays {l : List Ins} {s : Int} {m t : Nat} {n : Nat} (h : markN l (hts l s m) n t = -1) : ∀ n', n ≤ n' → markN l (hts l s m) n' t = -1 := by
  intro n' hn
  induction n' with
  | zero => obtain rfl : n = 0 := by omega
            exact h
  | succ n' ih =>
    rcases Nat.lt_or_ge n' n with h1 | h1
    · obtain rfl : n = n' + 1 := by omega
      exact h
    · have h2 := ih h1
      simp only [markN]
      cases hx : l[n']? with
      | none => simpa using h2
      | some x =>
        cases hh : (hts l s m)[n']? with
        | none => simpa using h2
        | some hv =>
          simp only []
          have := left_range hh hx
          split
          · rw [h2]; unfold mk; rw [if_pos (by omega)]
          · exact h2
def HRes (l : List Ins) (s : Int) (v : Value) (L : List Ent) : Prop := ∃ v1 L1, v = .tuple #[v1, .int .i64 (heightP l s).2.1, .int .i64 (heightP l s).2.2] ∧ L1.Sublist L ∧ IRow v1 (heightP l s).1 L1
theorem HRes.mk {l : List Ins} {s : Int} {A : Option Addr} {cp n : Nat} {Lr L : List Ent} {H : List Int} {a e : Int} (hr : Row 3 1 (.slice A n cp) (ints H) Lr) (hn : n = H.length) (hs : Lr.Sublist L) (h : heightP l s = (H, a, e)) : HRes l s (.tuple #[.slice A n cp, .int .i64 a, .int .i64 e]) L := by
  refine ⟨_, Lr, by rw [h], hs, ?_⟩
  rw [h]; exact IRow.mk hr hn
/-! What 'walk' tells, and its marks. -/
abbrev Vis := Int × Int × Int
def visN (l : List Ins) (H : List Int) : Nat → List Vis
  | 0 => []
  | n + 1 => match l[n]?, H[n]? with
    | some x, some h => visN l H n ++ [((n : Int), h, leftP x h)]
    | _, _ => visN l H n
def visP (l : List Ins) (s : Int) : List Vis := visN l (heightP l s).1 (heightP l s).1.length
theorem visN_ext (l : List Ins) {H H' : List Int} : ∀ n, (∀ k, k < n → H[k]? = H'[k]?) → visN l H n = visN l H' n
  | 0, _ => rfl
  | n + 1, h => by
    simp only [visN]
    rw [h n (by omega), visN_ext l n (fun k hk => h k (by omega))]
theorem visN_pre (l : List Ins) (H : List Int) {n m : Nat} (h : n ≤ m) : ∃ r, visN l H m = visN l H n ++ r := by
  induction m with
  | zero => obtain rfl : n = 0 := by omega
            exact ⟨[], by simp⟩
  | succ m ih =>
    rcases Nat.lt_or_ge m n with h1 | h1
    · obtain rfl : n = m + 1 := by omega
      exact ⟨[], by simp⟩
    · obtain ⟨r, hr⟩ := ih h1
      simp only [visN]
      split
      · exact ⟨r ++ _, by rw [hr, List.append_assoc]⟩
      · exact ⟨r, hr⟩
theorem heightP_fst {l : List Ins} {s : Int} (hl : ¬ (l.length < 1 ∨ 32 < l.length)) : (heightP l s).1 = hts l s l.length := by
  unfold heightP
  rw [if_neg hl]
  split <;> rfl
theorem visN_next {l : List Ins} {s : Int} {g : Nat} {x : Ins} (hg : (hts l s g).length = g) (hx : l[g]? = some x) (h : stepP l s (hts l s g) = none) :
    visN l (hts l s (g + 1)) (g + 1) = visN l (hts l s g) g ++ [((g : Int), markN l (hts l s g) g g - 1, leftP x (markN l (hts l s g) g g - 1))] := by
  rw [hts_next hg h]
  simp only [visN]
  rw [hx, List.getElem?_append_right (by omega), hg]
  simp only [Nat.sub_self, List.getElem?_cons_zero]
  rw [visN_ext l g (H' := hts l s g) (fun k hk => by rw [List.getElem?_append_left (by omega)])]
theorem visP_split {l : List Ins} {s : Int} {g : Nat} {x : Ins} (hl : ¬ (l.length < 1 ∨ 32 < l.length)) (hg : (hts l s g).length = g) (hx : l[g]? = some x) (h : stepP l s (hts l s g) = none) :
    ∃ rest, visP l s = visN l (hts l s g) g ++ ((g : Int), markN l (hts l s g) g g - 1, leftP x (markN l (hts l s g) g g - 1)) :: rest := by
  have hgl := (List.getElem?_eq_some_iff.1 hx).1
  have h1 := hts_next hg h
  obtain ⟨r, hr⟩ := hts_pre (l := l) (s := s) (n := g + 1) (m := l.length) (by omega)
  have hlen : (hts l s (g + 1)).length = g + 1 := by rw [h1]; simp [hg]
  unfold visP
  rw [heightP_fst hl]
  obtain ⟨r2, hr2⟩ := visN_pre l (hts l s l.length) (n := g + 1) (m := (hts l s l.length).length) (by rw [hr, List.length_append]; omega)
  rw [hr2, visN_ext l (g + 1) (H' := hts l s (g + 1)) (fun k hk => by rw [hr, List.getElem?_append_left (by omega)]), visN_next hg hx h]
  exact ⟨r2, by simp⟩
theorem visP_wrong {l : List Ins} {s : Int} (hl : ¬ (l.length < 1 ∨ 32 < l.length)) {g : Nat} (hg : (hts l s g).length = g) (hgl : g ≤ l.length) {e : Int} (h : stepP l s (hts l s g) = some e) : visP l s = visN l (hts l s g) g := by
  unfold visP
  rw [heightP_fst hl, hts_wrong hg h l.length hgl, hg]
theorem visP_ok {l : List Ins} {s : Int} (hl : ¬ (l.length < 1 ∨ 32 < l.length)) (hg : (hts l s l.length).length = l.length) : visP l s = visN l (hts l s l.length) l.length := by
  unfold visP
  rw [heightP_fst hl, hg]
theorem visP_len {l : List Ins} {s : Int} (hl : l.length < 1 ∨ 32 < l.length) : visP l s = [] := by unfold visP; rw [heightP_len hl]; rfl
def tgts (x : Ins) (g : Nat) : List Int := if x.op = 11 then [] else if x.op = 7 then [(g : Int) + 1, (g : Int) + 1 + x.a] else [(g : Int) + 1]
theorem goes_tgts (x : Ins) (g t : Nat) : goesP x g t = true ↔ (t : Int) ∈ tgts x g := by
  unfold goesP tgts
  rw [decide_eq_true_iff]
  split
  · simp; omega
  · split
    · simp; omega
    · simp; omega
/-- The marks when so many targets have been marked. -/
def MarksK (l : List Ins) (H : List Int) (g : Nat) (left : Int) (ts : List Int) (M : List Int) : Prop := M.length = l.length ∧ ∀ t, t < l.length → M[t]? = some (if (t : Int) ∈ ts then mk (markN l H g t) left else markN l H g t)
theorem MarksK.step {l : List Ins} {H : List Int} {g : Nat} {left : Int} {ts M : List Int} {t : Nat} {v : Int} (h : MarksK l H g left ts M) (ht : t < l.length) (hn : (t : Int) ∉ ts) (hv : v = mk (markN l H g t) left) : MarksK l H g left (ts ++ [(t : Int)]) (M.set t v) := by
  obtain ⟨h1, h2⟩ := h
  refine ⟨by simpa using h1, fun u hu => ?_⟩
  by_cases e : t = u
  · subst e
    rw [List.getElem?_set_self (by omega), if_pos (by simp), hv]
  · rw [List.getElem?_set_ne e, h2 u hu]
    have : ((u : Int) ∈ ts ++ [(t : Int)]) ↔ (u : Int) ∈ ts := by
      rw [List.mem_append, List.mem_singleton]
      exact ⟨fun h => h.elim id (fun h => by omega), .inl⟩
    simp only [this]
theorem MarksK.next {l : List Ins} {H H' : List Int} {g : Nat} {x : Ins} {h : Int} {M : List Int} (hM : MarksK l H g (leftP x h) (tgts x g) M) (hx : l[g]? = some x) (hh : H'[g]? = some h) (he : ∀ k, k < g → H[k]? = H'[k]?) : MarksK l H' (g + 1) 0 [] M := by
  refine ⟨hM.1, fun t ht => ?_⟩
  have e1 := markN_ext l g t he
  have e2 := markN_step (t := t) hx hh
  rw [hM.2 t ht]
  congr 1
  simp only [List.not_mem_nil, if_false]
  rw [e2, ← e1]
  by_cases hgo : goesP x g t = true
  · rw [if_pos ((goes_tgts x g t).1 hgo), if_pos hgo]
  · rw [if_neg (fun hm => hgo ((goes_tgts x g t).2 hm)), if_neg hgo]
theorem MarksK.get {l : List Ins} {H : List Int} {g : Nat} {left : Int} {M : List Int} (hM : MarksK l H g left [] M) {t : Nat} (ht : t < l.length) : M[t]? = some (markN l H g t) := by rw [hM.2 t ht, if_neg (by simp)]
theorem MarksK.left {l : List Ins} {H : List Int} {g : Nat} {a b : Int} {M : List Int} (hM : MarksK l H g a [] M) : MarksK l H g b [] M := ⟨hM.1, fun t ht => by rw [hM.get ht, if_neg (by simp)]⟩
theorem MarksK.init (l : List Ins) (hl : 0 < l.length) : MarksK l [] 0 0 [] ((List.replicate l.length 0).set 0 1) := by
  refine ⟨by simp, fun t ht => ?_⟩
  rw [if_neg (by simp)]
  simp only [markN]
  by_cases e : t = 0
  · subst e; rw [List.getElem?_set_self (by simpa using ht)]; rfl
  · rw [List.getElem?_set_ne (by omega), if_neg e]
    simp [ht]
theorem next_get {l : List Ins} {s : Int} {g : Nat} (hg : (hts l s g).length = g) (h : stepP l s (hts l s g) = none) : (hts l s (g + 1))[g]? = some (markN l (hts l s g) g g - 1) := by
  rw [hts_next hg h, List.getElem?_append_right (by omega), hg]; simp
theorem next_ext {l : List Ins} {s : Int} {g : Nat} (hg : (hts l s g).length = g) (h : stepP l s (hts l s g) = none) : ∀ k, k < g → (hts l s g)[k]? = (hts l s (g + 1))[k]? := by
  intro k hk
  rw [hts_next hg h, List.getElem?_append_left (by omega)]
theorem ok7 {x : Ins} {s : Int} (ho : okP x s = true) (h : x.op = 7) : 1 ≤ x.a := by
  unfold okP at ho
  rw [if_neg (by omega), if_pos h] at ho
  have := of_decide_eq_true ho
  exact this.1
theorem tgts7 {x : Ins} {g : Nat} (h : x.op = 7) : tgts x g = [(g : Int) + 1, (g : Int) + 1 + x.a] := by unfold tgts; rw [if_neg (by omega), if_pos h]
theorem tgtsN {x : Ins} {g : Nat} (h : x.op ≠ 11) (h7 : x.op ≠ 7) : tgts x g = [(g : Int) + 1] := by unfold tgts; rw [if_neg h, if_neg h7]
theorem tgts11 {x : Ins} {g : Nat} (h : x.op = 11) : tgts x g = [] := if_pos h
theorem MarksK.at {l : List Ins} {H : List Int} {g : Nat} {left : Int} {ts M : List Int} (hM : MarksK l H g left ts M) {t : Nat} (ht : t < l.length) (hn : (t : Int) ∉ ts) : M[t]? = some (markN l H g t) := by rw [hM.2 t ht, if_neg hn]
theorem take_not {ts : List Int} (hd : ts.Nodup) {k : Nat} {v : Int} (h : ts[k]? = some v) : v ∉ ts.take k ∧ ts.take (k + 1) = ts.take k ++ [v] := by
  refine ⟨fun hm => ?_, by rw [List.take_add_one, h]; rfl⟩
  obtain ⟨j, hj⟩ := List.getElem?_of_mem hm
  rw [List.getElem?_take] at hj
  split at hj
  · rename_i hjk
    obtain ⟨h1, e1⟩ := List.getElem?_eq_some_iff.1 hj
    obtain ⟨h2, e2⟩ := List.getElem?_eq_some_iff.1 h
    exact List.pairwise_iff_getElem.1 hd j k h1 h2 hjk (by rw [e1, e2])
  · cases hj
def mostV (vs : List Vis) : Int := vs.foldl (fun m v => max m v.2.2) 0
theorem mostV_app (vs : List Vis) (v : Vis) : mostV (vs ++ [v]) = max (mostV vs) v.2.2 := by simp [mostV]
theorem mostV_N (l : List Ins) (H : List Int) : ∀ n, mostV (visN l H n) = mostN l H n
  | 0 => rfl
  | n + 1 => by
    simp only [visN, mostN]
    cases l[n]? with
    | none => exact mostV_N l H n
    | some x =>
      cases H[n]? with
      | none => exact mostV_N l H n
      | some h => simp only []; rw [mostV_app, mostV_N l H n]
theorem mostV_P (l : List Ins) (s : Int) : mostV (visP l s) = mostP l (heightP l s).1 := mostV_N ..
theorem checkP_err {l : List Ins} {s : Int} (h : (heightP l s).2.2 ≠ 0) : checkP l s = (0, (heightP l s).2.1, (heightP l s).2.2) := if_pos h
theorem checkP_ok {l : List Ins} {s : Int} (h : ¬ (heightP l s).2.2 ≠ 0) : checkP l s = (mostP l (heightP l s).1, 0, 0) := if_neg h
def row1 : List Ins := [⟨2, 0, 0⟩, ⟨3, 0, 0⟩, ⟨5, 0, 0⟩, ⟨11, 0, 0⟩]
def row2 : List Ins := [⟨3, 0, 0⟩, ⟨7, 1, 0⟩, ⟨11, 0, 0⟩]
theorem row1_check : checkP row1 0 = (2, 0, 0) := by decide +kernel
theorem row2_check : checkP row2 0 = (0, 1, 5) := by decide +kernel
theorem el_ins : ElT Try.prog 77 3 24 [.int .i64 0, .int .i64 0, .int .i64 0] := ElT.mk' (by kernel_rfl) zt77 rfl rfl
theorem heightP_fst2 (l : List Ins) (s : Int) : (heightP l s).1 = [] ∨ (heightP l s).1 = hts l s l.length := by
  by_cases hl : l.length < 1 ∨ 32 < l.length
  · exact .inl (by rw [heightP_len hl])
  · exact .inr (heightP_fst hl)
theorem heightP_range {l : List Ins} {s a e : Int} {H : List Int} (hp : heightP l s = (H, a, e)) : ∀ (k : Nat) h x, H[k]? = some h → l[k]? = some x → -1000 ≤ h ∧ h ≤ 1000 := by
  intro k h x hk hx
  have h1 : (heightP l s).1 = H := by rw [hp]
  rcases heightP_fst2 l s with h2 | h2
  · rw [h1] at h2; subst h2; simp at hk
  · rw [h1] at h2; subst h2
    have := left_range hk hx
    omega
theorem heightP_short {l : List Ins} {s a e : Int} {H : List Int} (hp : heightP l s = (H, a, e)) : H.length ≤ l.length := by
  have h1 : (heightP l s).1 = H := by rw [hp]
  rcases heightP_fst2 l s with h2 | h2
  · rw [h1] at h2; subst h2; simp
  · rw [h1] at h2; subst h2; exact hts_le l s _
end Go.Proofs.Ytnebpklmbefmfaa
