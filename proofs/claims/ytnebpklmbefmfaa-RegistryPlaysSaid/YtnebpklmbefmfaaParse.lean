/- Bytes read as a module, in plain Lean; the reader's place. -/
import Derived.Test.YtnebpklmbefmfaaPanic
set_option linter.unusedVariables false
set_option linter.unusedSimpArgs false
namespace Go.Proofs.Ytnebpklmbefmfaa
open Go.RowKit
def i32 (n : Int) : Int := IntKind.i32.wrap n
/-- The number of four bytes, the lowest first. -/
def num32 (a b c d : Int) : Int := a + 256 * b + 65536 * c + 16777216 * d
def pCount : List Int → Option (Int × List Int)
  | [] => none
  | x :: r => some (x, r)
def pFace (r : List Int) : Option (Face × List Int) := if r.length < 17 then none else some (⟨r.take 16, r.getD 16 0 - 1⟩, r.drop 17)
def pIns (r : List Int) : Option (Ins × List Int) := if r.length < 6 then none else some (⟨r.getD 0 0, i32 (num32 (r.getD 2 0) (r.getD 3 0) (r.getD 4 0) (r.getD 5 0)), r.getD 1 0⟩, r.drop 6)
def pN {α : Type} (p : List Int → Option (α × List Int)) : Nat → List Int → Option (List α × List Int)
  | 0, r => some ([], r)
  | k + 1, r => (pN p k r).bind fun a => (p a.2).map fun b => (a.1 ++ [b.1], b.2)
def pMeth (r : List Int) : Option (List Ins × List Int) := (pCount r).bind fun a => pN pIns a.1.toNat a.2
def pClass (r : List Int) : Option (Cl × List Int) :=
  if r.length < 16 then none else (pCount (r.drop 16)).bind fun a => (pN pFace a.1.toNat a.2).bind fun b => (pCount b.2).bind fun c => (pCount c.2).bind fun d => (pN pMeth d.1.toNat d.2).map fun e => (⟨r.take 16, b.1, c.1, e.1⟩, e.2)
def pMod (r : List Int) : Option (List Cl) := (pCount r).bind fun a => (pN pClass a.1.toNat a.2).map (·.1)
section
variable {α : Type} {p : List Int → Option (α × List Int)} {k n : Nat} {r r' r'' : List Int} {xs : List α} {x : α}
theorem pN_next (h : pN p k r = some (xs, r')) (hx : p r' = some (x, r'')) : pN p (k + 1) r = some (xs ++ [x], r'') := by simp only [pN]; rw [h]; simp only [Option.bind_some]; rw [hx]; rfl
theorem pN_stop (h : pN p k r = some (xs, r')) (hx : p r' = none) : pN p (k + 1) r = none := by simp only [pN]; rw [h]; simp only [Option.bind_some]; rw [hx]; rfl
theorem pN_none (h : pN p k r = none) : ∀ m, k ≤ m → pN p m r = none := by
  intro m hm
  induction m with
  | zero => obtain rfl : k = 0 := by omega
            exact h
  | succ m ih =>
    rcases Nat.lt_or_ge m k with h1 | h1
    · obtain rfl : k = m + 1 := by omega
      exact h
    · simp only [pN]; rw [ih h1]; rfl
theorem pN_fail (hk : k < n) (h : pN p k r = some (xs, r')) (hx : p r' = none) : pN p n r = none := pN_none (pN_stop h hx) n (by omega)
theorem pN_len : ∀ {k : Nat} {r r' : List Int} {xs : List α}, pN p k r = some (xs, r') → xs.length = k
  | 0, r, r', xs, h => by simp only [pN, Option.some.injEq, Prod.mk.injEq] at h; rw [← h.1]; rfl
  | k + 1, r, r', xs, h => by
    simp only [pN] at h
    cases h1 : pN p k r with
    | none => rw [h1] at h; cases h
    | some a =>
      rw [h1] at h
      simp only [Option.bind_some] at h
      cases h2 : p a.2 with
      | none => rw [h2] at h; cases h
      | some b =>
        rw [h2] at h
        simp only [Option.map_some, Option.some.injEq, Prod.mk.injEq] at h
        have := pN_len (xs := a.1) (r' := a.2) h1
        rw [← h.1, List.length_append, this]; rfl
/-- What each part of a row has, all have. -/
theorem pN_all {Q : α → Prop} {I : List Int → Prop} (hp : ∀ r x r', I r → p r = some (x, r') → Q x ∧ I r') : ∀ {k : Nat} {r r' : List Int} {xs : List α}, I r → pN p k r = some (xs, r') → (∀ x ∈ xs, Q x) ∧ I r'
  | 0, r, r', xs, hI, h => by
    simp only [pN, Option.some.injEq, Prod.mk.injEq] at h
    rw [← h.1, ← h.2]; exact ⟨by simp, hI⟩
  | k + 1, r, r', xs, hI, h => by
    simp only [pN] at h
    cases h1 : pN p k r with
    | none => rw [h1] at h; cases h
    | some a =>
      rw [h1] at h
      simp only [Option.bind_some] at h
      cases h2 : p a.2 with
      | none => rw [h2] at h; cases h
      | some b =>
        rw [h2] at h
        simp only [Option.map_some, Option.some.injEq, Prod.mk.injEq] at h
        obtain ⟨h3, h4⟩ := pN_all hp (xs := a.1) (r' := a.2) hI h1
        obtain ⟨h5, h6⟩ := hp _ _ _ h4 h2
        rw [← h.1, ← h.2]
        refine ⟨fun x hx => ?_, h6⟩
        rcases List.mem_append.1 hx with hx | hx
        · exact h3 x hx
        · rw [List.mem_singleton] at hx; exact hx ▸ h5
end
/-- Bytes are. -/
def Byt (l : List Int) : Prop := ∀ x ∈ l, 0 ≤ x ∧ x ≤ 255
theorem Byt.take {l : List Int} (h : Byt l) (n : Nat) : Byt (l.take n) := fun x hx => h x (List.mem_of_mem_take hx)
theorem Byt.drop {l : List Int} (h : Byt l) (n : Nat) : Byt (l.drop n) := fun x hx => h x (List.mem_of_mem_drop hx)
theorem Byt.at {l : List Int} (h : Byt l) (n : Nat) : 0 ≤ l.getD n 0 ∧ l.getD n 0 ≤ 255 := by
  rw [List.getD_eq_getElem?_getD]
  cases hx : l[n]? with
  | none => exact ⟨by decide, by decide⟩
  | some v => exact h v (List.mem_of_getElem? hx)
/-- '|' of a number and a byte that stands above it. -/
theorem or_bytes {s x : Int} {i : Nat} (hi : i ≤ 3) (h0 : 0 ≤ s) (h1 : s < 2 ^ (8 * i)) (hx0 : 0 ≤ x) (hx1 : x ≤ 255) : IntKind.u32.wrap ((BitVec.ofInt 32 s ||| BitVec.ofInt 32 (IntKind.u32.wrap (x * 2 ^ (8 * i)))).toNat) = s + x * 2 ^ (8 * i) := by
  obtain ⟨sn, rfl⟩ : ∃ n : Nat, s = n := ⟨s.toNat, by omega⟩
  obtain ⟨xn, rfl⟩ : ∃ n : Nat, x = n := ⟨x.toNat, by omega⟩
  have hs : sn < 2 ^ (8 * i) := by exact_mod_cast h1
  have hp : (2 : Nat) ^ (8 * i) * xn < 2 ^ 32 := by
    have : (2 : Nat) ^ (8 * i) ≤ 2 ^ 24 := Nat.pow_le_pow_right (by decide) (by omega)
    have h5 : 2 ^ (8 * i) * xn ≤ 2 ^ 24 * 255 := Nat.mul_le_mul this (by omega)
    omega
  have hsum : 2 ^ (8 * i) * xn + sn < 2 ^ 32 := by
    have h6 : 2 ^ (8 * i) * (xn + 1) ≤ 2 ^ 32 := by
      have h7 : (2 : Nat) ^ 32 = 2 ^ (8 * i) * 2 ^ (32 - 8 * i) := by rw [← Nat.pow_add]; congr 1; omega
      rw [h7]
      refine Nat.mul_le_mul_left _ ?_
      have : (2 : Nat) ^ 8 ≤ 2 ^ (32 - 8 * i) := Nat.pow_le_pow_right (by decide) (by omega)
      omega
    rw [Nat.mul_add] at h6; omega
  have hor := Nat.two_pow_add_eq_or_of_lt hs xn
  obtain ⟨q, hq⟩ : ∃ q, q = 2 ^ (8 * i) * xn := ⟨_, rfl⟩
  rw [← hq] at hp hsum hor
  have e1 : ((xn : Int) * 2 ^ (8 * i)) = (q : Int) := by rw [hq]; push_cast; rw [Int.mul_comm]
  have e2 : IntKind.u32.wrap (q : Int) = (q : Int) := by rw [u32_eq]; omega
  have e3 : (BitVec.ofInt 32 (sn : Int)).toNat = sn := by simp only [BitVec.toNat_ofInt]; omega
  have e4 : (BitVec.ofInt 32 (q : Int)).toNat = q := by simp only [BitVec.toNat_ofInt]; omega
  rw [e1, e2, BitVec.toNat_or, e3, e4, Nat.or_comm, ← hor, u32_eq]
  push_cast
  omega
def numS (r : List Int) : Nat → Int
  | 0 => 0
  | n + 1 => numS r n + r.getD n 0 * 2 ^ (8 * n)
theorem numS_four (r : List Int) : numS r 4 = num32 (r.getD 0 0) (r.getD 1 0) (r.getD 2 0) (r.getD 3 0) := by
  simp only [numS, num32]; omega
theorem numS_range {r : List Int} (hr : Byt r) : ∀ n, 0 ≤ numS r n ∧ numS r n < 2 ^ (8 * n)
  | 0 => by simp [numS]
  | n + 1 => by
    obtain ⟨h1, h2⟩ := numS_range hr n
    obtain ⟨h3, h4⟩ := hr.at n
    have hp : (0 : Int) < 2 ^ (8 * n) := Int.pow_pos (by decide)
    simp only [numS]
    have e : (2 : Int) ^ (8 * (n + 1)) = 256 * 2 ^ (8 * n) := by rw [show 8 * (n + 1) = 8 * n + 8 by omega, Int.pow_add, Int.mul_comm]; rfl
    rw [e]
    have h5 : r.getD n 0 * 2 ^ (8 * n) ≤ 255 * 2 ^ (8 * n) := Int.mul_le_mul_of_nonneg_right h4 (Int.le_of_lt hp)
    have h6 : 0 ≤ r.getD n 0 * 2 ^ (8 * n) := Int.mul_nonneg h3 (Int.le_of_lt hp)
    omega
/-! The reader's place. -/
def cutA (A : Option Addr) (cp n : Nat) : Option Addr := if cp = n then A else A.map (·.add (n * 1))
theorem Rd.cut {w : World} {A : Option Addr} {cp n : Nat} {r : List Int} (h : Rd w A (gcells r)) (hn : n ≤ r.length) (hc : r.length ≤ cp) : Rd w (cutA A cp n) (gcells (r.drop n)) := by
  obtain ⟨b, o, h1, h2⟩ := h
  rw [gcells_len] at h1
  rcases Nat.eq_or_lt_of_le hn with e | hlt
  · rw [List.drop_eq_nil_of_le (by omega)]; exact Rd.nil _ _
  · refine ⟨b, o + n, fun _ => ?_, fun j v hv => ?_⟩
    · unfold cutA
      rw [if_neg (by omega), h1 (by omega)]
      simp [addr_add]
    · rw [Nat.add_assoc]
      refine h2 _ _ ?_
      simp only [gcells, List.map_drop, List.getElem?_drop] at hv ⊢
      exact hv
theorem Rd.firstn {w : World} {A : Option Addr} {n : Nat} {r : List Int} (h : Rd w A (gcells r)) (hn : n ≤ r.length) : Rd w A (gcells (r.take n)) := by
  obtain ⟨b, o, h1, h2⟩ := h
  rw [gcells_len] at h1
  refine ⟨b, o, fun h0 => h1 (by rw [gcells_len, List.length_take] at h0; omega), fun j v hv => h2 j v ?_⟩
  simp only [gcells, List.map_take, List.getElem?_take] at hv ⊢
  split at hv
  · exact hv
  · cases hv
theorem hi_same {A : Option Addr} {cp : Nat} : (if cp = 0 then A else A.map (·.add 0)) = A := by
  split
  · rfl
  · cases A <;> simp [Addr.add]
abbrev srcE (sb : Nat) (A : Option Addr) (cp : Nat) (r : List Int) : Ent := (sb, cel 118 [.slice A r.length cp])
end Go.Proofs.Ytnebpklmbefmfaa
