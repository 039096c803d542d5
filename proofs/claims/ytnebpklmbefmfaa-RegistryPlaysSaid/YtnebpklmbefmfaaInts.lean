/- SYM: rows that are read; numbers; own rows of numbers; rows of elements of one kind. -/
import Derived.Test.YtnebpklmbefmfaaTypes
import Derived.Test.YtnebpklmbefmfaaSymAny
set_option linter.unusedVariables false
set_option linter.unusedSimpArgs false
namespace Go.Proofs.Ytnebpklmbefmfaa
open Go.RowKit
/-- A slice that starts at A reads as these cells. -/
def Rd (w : World) (A : Option Addr) (cs : List Value) : Prop := ∃ b o, (0 < cs.length → A = some ⟨b, o, none⟩) ∧ CellsAt w b o cs
theorem Rd.nil (w : World) (A : Option Addr) : Rd w A [] := ⟨0, 0, fun h => by simp at h, fun j v hv => by simp at hv⟩
theorem Rd.st {w0 w : World} {S : List Nat} {L : List Ent} {A : Option Addr} {cs : List Value} (h : Rd w0 A cs) (hst : St w0 S w L) (hS : ∀ k ∈ S, w0.heap.size ≤ k) : Rd w A cs := by
  obtain ⟨b, o, h1, h2⟩ := h
  refine ⟨b, o, h1, fun j v hv => ?_⟩
  refine hst.cellI (h2 j v hv) (fun hm => ?_)
  have := World.block_lt_of_cell? _ _ (h2 j v hv)
  have := hS _ hm
  simp only at *
  omega
theorem Rd.st0 {w0 w : World} {L : List Ent} {A : Option Addr} {cs : List Value} (h : Rd w0 A cs) (hst : St w0 [] w L) : Rd w A cs := h.st hst (by simp)
theorem Rd.lt {w : World} {b o : Nat} {cs : List Value} (h : CellsAt w b o cs) (h0 : 0 < cs.length) : b < w.heap.size := World.block_lt_of_cell? _ _ (h 0 cs[0] (by simp [h0]))
theorem Row.rd {e sz : Nat} {v : Value} {xs : List Value} {Lr L : List Ent} {w0 w : World} {S : List Nat} (h : Row e sz v xs Lr) (hst : St w0 S w L) (hs : ∀ p ∈ Lr, p ∈ L) : ∃ A m cp, v = .slice A m cp ∧ xs.length = m * sz ∧ m ≤ cp ∧ Rd w A xs := by
  obtain ⟨A, m, cp, h1, h2, h3, h4⟩ := h.reads hst hs
  refine ⟨A, m, cp, h1, h2, h3, ?_⟩
  rcases h4 with ⟨rfl, rfl⟩ | ⟨b, rfl, hc⟩
  · exact Rd.nil _ _
  · exact ⟨b, 0, fun _ => rfl, hc⟩
/-- The i-th of rows of equal lengths. -/
theorem flat_get {sz : Nat} : ∀ {rows : List (List Value)} (_ : ∀ r ∈ rows, r.length = sz) (i : Nat) (r : List Value), rows[i]? = some r → (rows.flatten.drop (i * sz)).take sz = r
  | [], _, i, r, h => by simp at h
  | r0 :: rows, hall, 0, r, h => by
    have h0 := hall r0 (by simp)
    simp at h; subst h
    simp [← h0]
  | r0 :: rows, hall, i + 1, r, h => by
    have h0 := hall r0 (by simp)
    have := flat_get (rows := rows) (fun r hr => hall r (by simp [hr])) i r (by simpa using h)
    have e : (r0 ++ rows.flatten).drop ((i + 1) * sz) = rows.flatten.drop (i * sz) := by
      rw [Nat.add_mul, Nat.one_mul, Nat.add_comm, ← List.drop_drop]
      congr 1
      rw [← h0]; simp
    rw [List.flatten_cons, e]; exact this
theorem cells_row {w : World} {b o sz : Nat} {rows : List (List Value)} (h : CellsAt w b o rows.flatten) (hall : ∀ r ∈ rows, r.length = sz) {i : Nat} {r : List Value} (hr : rows[i]? = some r) : CellsAt w b (o + i * sz) r := by
  have := h.sub (i * sz) sz
  rwa [flat_get hall i r hr] at this
def ints (xs : List Int) : List Value := xs.map (Value.int .i64)
theorem ints_length (xs : List Int) : (ints xs).length = xs.length := by simp [ints]
theorem ints_append (xs ys : List Int) : ints (xs ++ ys) = ints xs ++ ints ys := by simp [ints]
theorem ints_get {xs : List Int} {i : Nat} {x : Int} (h : xs[i]? = some x) : (ints xs)[i]? = some (.int .i64 x) := by simp [ints, h]
theorem ints_inj {xs ys : List Int} (h : ints xs = ints ys) : xs = ys := by
  induction xs generalizing ys with
  | nil => cases ys with
    | nil => rfl
    | cons y ys => simp [ints] at h
  | cons x xs ih => cases ys with
    | nil => simp [ints] at h
    | cons y ys =>
      simp only [ints, List.map_cons, List.cons.injEq, Value.int.injEq, true_and] at h
      rw [h.1, ih h.2]
theorem take_all {l : List Value} {n : Nat} (h : l.length = n) : (l.drop 0).take n = l := by rw [List.drop_zero]; exact List.take_of_length_le (by omega)
theorem find_pre {α : Type} {p : α → Bool} {pre rest : List α} {x : α} (h : ∀ a ∈ pre, p a = false) (hx : p x = true) : (pre ++ x :: rest).find? p = some x := by
  rw [List.find?_append, List.find?_eq_none.2 (fun a ha => by simp [h a ha])]; simp [hx]
theorem find_no {α : Type} {p : α → Bool} {l : List α} (h : ∀ a ∈ l, p a = false) : l.find? p = none := List.find?_eq_none.2 (fun a ha => by simp [h a ha])
theorem find_at {α : Type} {p : α → Bool} {l : List α} {g : Nat} {x : α} (h : ∀ (k : Nat) y, k < g → l[k]? = some y → p y = false) (hx : l[g]? = some x) (hp : p x = true) : l.find? p = some x := by
  obtain ⟨hg, e⟩ := List.getElem?_eq_some_iff.1 hx
  have : l = l.take g ++ x :: l.drop (g + 1) := by rw [← e]; simp
  rw [this]
  refine find_pre (fun a ha => ?_) hp
  obtain ⟨k, hk⟩ := List.getElem?_of_mem ha
  rw [List.getElem?_take] at hk
  split at hk
  · exact h k a (by assumption) hk
  · cases hk
theorem find_no_at {α : Type} {p : α → Bool} {l : List α} (h : ∀ (k : Nat) y, l[k]? = some y → p y = false) : l.find? p = none :=
  find_no (fun a ha => let ⟨k, hk⟩ := List.getElem?_of_mem ha; h k a hk)
theorem step_at {α : Type} {P : α → Prop} {l : List α} {g : Nat} {x : α} (h : ∀ (k : Nat) y, k < g → l[k]? = some y → P y) (hx : l[g]? = some x) (hp : P x) : ∀ (k : Nat) y, k < g + 1 → l[k]? = some y → P y := by
  intro k y hk hy
  rcases Nat.lt_succ_iff_lt_or_eq.1 hk with h1 | rfl
  · exact h k y h1 hy
  · rw [hx] at hy; exact Option.some.inj hy ▸ hp
/-- A row of one's own that holds these numbers. -/
def IRow (v : Value) (xs : List Int) (L : List Ent) : Prop := ∃ A cp, v = .slice A xs.length cp ∧ Row 3 1 (.slice A xs.length cp) (ints xs) L
theorem el_int : ElT Try.prog 3 1 8 [.int .i64 0] := ElT.mk' (by kernel_rfl) zt3 rfl rfl
theorem IRow.nil : IRow (.slice none 0 0) [] [] := ⟨none, 0, rfl, Row.nil⟩
theorem IRow.mk {A : Option Addr} {n cp : Nat} {xs : List Int} {L : List Ent} (h : Row 3 1 (.slice A n cp) (ints xs) L) (hn : n = xs.length) : IRow (.slice A n cp) xs L := by subst hn; exact ⟨A, cp, rfl, h⟩
theorem Row.irow {A : Option Addr} {n cp : Nat} {xs : List Int} {L : List Ent} {x : Int} (h : Row 3 1 (.slice A n cp) (ints xs ++ [.int .i64 x]) L) : Row 3 1 (.slice A n cp) (ints (xs ++ [x])) L := by rw [ints_append]; exact h
theorem IRow.app {A : Option Addr} {cp : Nat} {xs : List Int} {x : Int} {L : List Ent} (h : Row 3 1 (.slice A (xs ++ [x]).length cp) (ints xs ++ [.int .i64 x]) L) : IRow (.slice A (xs ++ [x]).length cp) (xs ++ [x]) L := ⟨A, cp, rfl, h.irow⟩
theorem ints_app_get {xs : List Int} {junk : List Value} {i : Nat} {x : Int} (h : xs[i]? = some x) : (ints xs ++ junk)[0 + i * 1]? = some (.int .i64 x) := by
  have h2 : i < xs.length := (List.getElem?_eq_some_iff.1 h).1
  rw [Nat.zero_add, Nat.mul_one, List.getElem?_append_left (by rw [ints_length]; exact h2)]
  exact ints_get h
theorem nd2 {a b : Ent} {L : List Ent} (h : (keys (a :: L)).Nodup) (hb : b ∈ L) : a.1 ≠ b.1 := by
  intro e
  rw [keys, List.map_cons, List.nodup_cons] at h
  exact h.1 (e ▸ List.mem_map.2 ⟨b, hb, rfl⟩)
theorem St.not_left {w0 w : World} {S : List Nat} {L1 L2 : List Ent} {p : Ent} (h : St w0 S w (L1 ++ L2)) (hp : p ∈ L2) : p.1 ∉ keys L1 := by
  intro hm
  have := h.nodup
  rw [List.map_append, List.nodup_append] at this
  exact this.2.2 _ hm _ (List.mem_map.2 ⟨p, hp, rfl⟩) rfl
theorem St.cellB {w0 w : World} {S : List Nat} {L : List Ent} {b : Nat} {t : TypeId} {v : Value} (h : St w0 S w L) (hm : (b, cel t [v]) ∈ L) : w.cell? ⟨b, 0, none⟩ = some v := by rw [h.cellO hm]; rfl
def SRow (v : Value) (xs : List Int) (L : List Ent) : Prop := ∃ L1, L1.Sublist L ∧ IRow v xs L1
theorem St.ge {w0 w : World} {L : List Ent} {p : Ent} (h : St w0 [] w L) (hp : p ∈ L) : w0.heap.size ≤ p.1 := (h.free p hp).elim (fun h => by simp at h) id
theorem mem_pre {α : Type} {x : α} {F pre rest : List α} (h : F = pre ++ x :: rest) : x ∈ F := by rw [h]; simp
theorem all_snoc {α : Type} {p : α → Prop} {l : List α} {x : α} (h : ∀ y ∈ l, p y) (hx : p x) : ∀ y ∈ l ++ [x], p y := by
  intro y hy
  rcases List.mem_append.1 hy with hy | hy
  · exact h y hy
  · rw [List.mem_singleton] at hy; exact hy ▸ hx
theorem mem_of_snoc {α : Type} {x y : α} {F pre rest : List α} (h : F = pre ++ x :: rest) (hy : y ∈ pre ++ [x]) : y ∈ F := by
  rw [h]; simp at hy ⊢; rcases hy with hy | hy
  · exact .inl hy
  · exact .inr (.inl hy)
theorem rd_own {w0 w : World} {S : List Nat} {L : List Ent} {b t : Nat} {l : List Value} (hst : St w0 S w L) [hm : HasE b (cel t l) L] : Rd w (some ⟨b, 0, none⟩) l := ⟨b, 0, fun _ => rfl, by simpa using hst.cellsO hm.out 0⟩
theorem row_rd {e sz m cp : Nat} {A : Option Addr} {xs : List Value} {Lr L : List Ent} {w0 w : World} {S : List Nat} (h : Row e sz (.slice A m cp) xs Lr) (hst : St w0 S w L) (hs : ∀ p ∈ Lr, p ∈ L) : Rd w A xs := by
  obtain ⟨A2, m2, cp2, e1, _, _, h2⟩ := h.rd hst hs
  cases e1; exact h2
/-- What 'Pick' gives for a row that is not empty. -/
theorem pick_some {x : Int} {n : Nat} (h : 1 ≤ n) : ∃ q : Nat, (if (n : Int) < 1 then 0 else x % (n : Int)) = (q : Int) ∧ q < n := by
  rw [if_neg (by omega)]
  have h1 := Int.emod_nonneg x (show (n : Int) ≠ 0 by omega)
  have h2 := Int.emod_lt_of_pos x (show (0 : Int) < n by omega)
  exact ⟨(x % (n : Int)).toNat, by omega, by omega⟩
theorem Ctr.toT {P : Program} {f : FuncId} {args : List Value} {w : World} {n : Nat} (h : Ctr P f args w [] fun v _ => v = .bool (decide (60 < n))) (hn : 60 < n) : Ctr P f args w [] fun v _ => v = .bool true := h.mono fun v L e => by rw [e, decide_eq_true hn]
theorem Ctr.toF {P : Program} {f : FuncId} {args : List Value} {w : World} {n : Nat} (h : Ctr P f args w [] fun v _ => v = .bool (decide (60 < n))) (hn : ¬ 60 < n) : Ctr P f args w [] fun v _ => v = .bool false := h.mono fun v L e => by rw [e, decide_eq_false hn]
/-- A slot that holds a row of numbers of one's own. -/
def rowF (xs : List Int) : Fact := .prd (fun v L => ∃ L1, (∀ p ∈ L1, p ∈ L) ∧ ∃ A cp, v = .slice A xs.length cp ∧ Row 3 1 (.slice A xs.length cp) (ints xs) L1) (fun _ _ _ hs ⟨L1, h1, h2⟩ => ⟨L1, fun p hp => hs p (h1 p hp), h2⟩)
theorem rd_takeI {w : World} {A : Option Addr} {xs : List Int} {k : Nat} (h : Rd w A (ints xs)) : Rd w A (ints (xs.take k)) := by
  obtain ⟨b, o, h1, h2⟩ := h
  refine ⟨b, o, fun h => h1 (by rw [ints_length, List.length_take] at h; rw [ints_length]; omega), fun j v hv => h2 j v ?_⟩
  have e : ints xs = ints (xs.take k) ++ ints (xs.drop k) := by rw [← ints_append, List.take_append_drop]
  rw [e, List.getElem?_append_left (List.getElem?_eq_some_iff.1 hv).1]; exact hv
theorem Row.hi {e sz m cp : Nat} {A : Option Addr} {xs : List Value} {L : List Ent} (h : Row e sz (.slice A m cp) xs L) : (if cp = 0 then A else A.map (·.add 0)) = A := by
  cases h with
  | nil => rfl
  | blk b m cp xs junk h1 h2 h3 => split <;> simp [Addr.add]
theorem srow_of {v : Value} {xs : List Int} {L : List Ent} (h : ∃ L1 L2, L = L1 ++ L2 ∧ IRow v xs L1) : SRow v xs L := let ⟨L1, L2, h1, h2⟩ := h; ⟨L1, by rw [h1]; exact List.sublist_append_left _ _, h2⟩
theorem St.low_not {w0 w : World} {L : List Ent} {b : Nat} (h : St w0 [] w L) (hb : b < w0.heap.size) {L1 : List Ent} (hs : ∀ p ∈ L1, p ∈ L) : b ∉ keys L1 := by
  intro hm
  obtain ⟨p, hp, e⟩ := List.mem_map.1 hm
  have := h.ge (hs p hp)
  omega
theorem flat_all {sz b o : Nat} {w : World} : ∀ {rows : List (List Value)} (_ : ∀ r ∈ rows, r.length = sz), (∀ i r, rows[i]? = some r → ∀ j, j < sz → w.cell? ⟨b, o + i * sz + j, none⟩ = r[j]?) → CellsAt w b o rows.flatten
  | [], _, _, j, v, h => by simp at h
  | r0 :: rows, hall, hc, j, v, h => by
    have h0 := hall r0 (by simp)
    rw [List.flatten_cons] at h
    rcases Nat.lt_or_ge j sz with hlt | hge
    · rw [List.getElem?_append_left (by omega)] at h
      have := hc 0 r0 rfl j hlt
      rw [Nat.zero_mul, Nat.add_zero] at this
      rw [this, h]
    · rw [List.getElem?_append_right (by omega), h0] at h
      have := flat_all (b := b) (o := o + sz) (w := w) (rows := rows) (fun r hr => hall r (by simp [hr])) (fun i r hr j hj => by
        have := hc (i + 1) r (by simpa using hr) j hj
        rw [Nat.add_mul, Nat.one_mul] at this
        rw [← this, show o + sz + i * sz + j = o + (i * sz + sz) + j by omega]) (j - sz) v h
      rw [← this, show o + sz + (j - sz) = o + j by omega]
theorem spot_none {w : World} {a : Addr} {v : Value} (h : w.cell? a = some v) : a = ⟨a.block, a.off, none⟩ := by
  obtain ⟨b, o, s⟩ := a
  cases s with
  | none => rfl
  | some x =>
    exfalso
    unfold World.cell? at h
    simp only [Option.isSome_some, if_true] at h
    split at h <;> simp_all
section
variable {c : Cx} {Qp : Po} {K : Ko} {ρ : Env} {ds : Ds} {L : List Ent} {ol rest : List Oper} {d : Option Nat} {ty : TypeId} {pos : String} {af : Array Edge} {g : Option (Nat × Bool)} {t : TypeId} {x y : Operand}
/-- x[:h] of a slice that is not nil. -/
theorem RL.sliceHi1 {e sz m cp j b o : Nat} {k : IntKind} {i : Int} (hw : wantE c.n ol ρ ⟨d, .slice t x none (some y) none, ty, pos, af, g⟩ = true) (hT : SlT c.P t e sz) (hx : evE c.n ρ x = .slice (some ⟨b, o, none⟩) m cp) (hy : evE c.n ρ y = .int k i) (hi : i = (j : Int)) (hj : j ≤ cp) (hcp : 0 < cp)
    (h : RL c ol rest K Qp (updO ρ d (.slice (some ⟨b, o, none⟩) j cp)) ds L) : RL c ol (⟨d, .slice t x none (some y) none, ty, pos, af, g⟩ :: rest) K Qp ρ ds L := by
  refine RL.sliceHi hw hT hx hy hi hj ?_
  rw [if_neg (by omega)]
  simpa [addr_add] using h
end
/-! Rows of elements: 'enc' writes one out. -/
def ecells {α : Type} (enc : α → List Value) (xs : List α) : List Value := (xs.map enc).flatten
section
variable {α : Type} {enc : α → List Value} {sz : Nat}
theorem ecells_len (hsz : ∀ x, (enc x).length = sz) (xs : List α) : (ecells enc xs).length = xs.length * sz := by
  induction xs with
  | nil => simp [ecells]
  | cons x xs ih =>
    have := hsz x
    simp only [ecells, List.map_cons, List.flatten_cons, List.length_append, List.length_cons] at ih ⊢
    rw [ih, this, Nat.add_mul]; omega
theorem ecells_app (xs ys : List α) : ecells enc (xs ++ ys) = ecells enc xs ++ ecells enc ys := by simp [ecells]
theorem ecells_one (h : ∀ x, ∀ u ∈ enc x, u.oneCell' = true) (xs : List α) : ∀ u ∈ ecells enc xs, u.oneCell' = true := by
  intro u hu
  unfold ecells at hu
  obtain ⟨l, hl, hu⟩ := List.mem_flatten.1 hu
  obtain ⟨x, _, rfl⟩ := List.mem_map.1 hl
  exact h x u hu
theorem elem_at (hsz : ∀ x, (enc x).length = sz) {w : World} {b o : Nat} {xs : List α} (hc : CellsAt w b o (ecells enc xs)) {i : Nat} {x : α} (hx : xs[i]? = some x) : CellsAt w b (o + i * sz) (enc x) :=
  cells_row (sz := sz) hc (fun r hr => by obtain ⟨y, _, rfl⟩ := List.mem_map.1 hr; exact hsz y) (by simp [hx])
theorem own_elem (hsz : ∀ x, (enc x).length = sz) {xs : List α} {junk : List Value} {i : Nat} {x : α} (hx : xs[i]? = some x) : ((ecells enc xs ++ junk).drop (0 + i * sz)).take sz = enc x := by
  have hi := (List.getElem?_eq_some_iff.1 hx).1
  have h1 := flat_get (sz := sz) (rows := xs.map enc) (fun r hr => by obtain ⟨y, _, rfl⟩ := List.mem_map.1 hr; exact hsz y) i (enc x) (by simp [hx])
  have h2 := ecells_len hsz xs
  have h3 : i * sz + sz ≤ xs.length * sz := by
    have := Nat.mul_le_mul_right sz (show i + 1 ≤ xs.length by omega)
    rw [Nat.add_mul] at this; omega
  rw [Nat.zero_add, List.drop_append_of_le_length (by omega), List.take_append_of_le_length (by rw [List.length_drop]; omega)]
  exact h1
theorem elem_st {w0 w : World} {S : List Nat} {L : List Ent} {b o : Nat} {xs : List α} (hst : St w0 S w L) (hc : CellsAt w0 b o (ecells enc xs)) (hS : 0 < xs.length → b ∉ S) : CellsAt w b o (ecells enc xs) := by
  cases xs with
  | nil => intro j v hv; simp [ecells] at hv
  | cons x xs => exact hst.cellsI hc (hS (by simp))
theorem rd_takeE {w : World} {A : Option Addr} {xs : List α} {k : Nat} (h : Rd w A (ecells enc xs)) : Rd w A (ecells enc (xs.take k)) := by
  obtain ⟨b, o, h1, h2⟩ := h
  have e : ecells enc xs = ecells enc (xs.take k) ++ ecells enc (xs.drop k) := by rw [← ecells_app, List.take_append_drop]
  refine ⟨b, o, fun h => h1 (by rw [e, List.length_append]; omega), fun j v hv => h2 j v ?_⟩
  rw [e, List.getElem?_append_left (List.getElem?_eq_some_iff.1 hv).1]; exact hv
end
theorem CellsAt.at {w : World} {b o : Nat} {l : List Value} (h : CellsAt w b o l) {j : Nat} {v : Value} (hv : l[j]? = some v) : w.cell? ⟨b, o + j, none⟩ = some v := h j v hv
/-- A store into a row of numbers. -/
theorem ints_set {xs : List Int} {junk : List Value} {i : Nat} {x : Int} (h : i < xs.length) : (ints xs ++ junk).set (0 + i * 1) (.int .i64 x) = ints (xs.set i x) ++ junk := by
  rw [Nat.zero_add, Nat.mul_one, List.set_append_left _ _ (by rw [ints_length]; exact h)]
  congr 1
  simp [ints, List.map_set]
section
variable {c : Cx} {Qp : Po} {K : Ko} {ρ : Env} {ds : Ds} {L : List Ent} {ol rest : List Oper} {d : Option Nat} {ty : TypeId} {pos : String} {af : Array Edge} {g : Option (Nat × Bool)} {t : TypeId} {x y : Operand}
/-- make([]int, n): a row of one's own of zeros. -/
theorem RL.makeInts {e n : Nat} (hq : c.q = false) (hw : wantE c.n ol ρ ⟨d, .makeSlice t x y, ty, pos, af, g⟩ = true) (hT : SlT c.P t e 1) (hE : ElT c.P e 1 8 [.int .i64 0]) (hx : evE c.n ρ x = .int .i64 (n : Int)) (hy : evE c.n ρ y = .int .i64 (n : Int)) (hn : n ≤ 1000000)
    (h : ∀ b, c.w0.heap.size ≤ b → RL c ol rest K Qp (updO ρ d (.slice (some ⟨b, 0, none⟩) n n)) ds ((b, cel e (ints (List.replicate n 0))) :: L)) : RL c ol (⟨d, .makeSlice t x y, ty, pos, af, g⟩ :: rest) K Qp ρ ds L := by
  refine RL.step hq hw rfl fun w hst => ⟨_, w.alloc (cel e (ints (List.replicate n 0))), _, .inl ?_, hst.alloc _, h _ hst.size⟩
  obtain ⟨ii, hi1, hi2⟩ := hE.run_info w
  obtain ⟨zv, hz1, hz2⟩ := hE.zero
  have hwr : IntKind.i64.wrap (n : Int) = (n : Int) := wrap_i64 (by omega)
  have h1 : ¬ ((n : Int) < 0) := by omega
  have h2 : ¬ (((8 : Nat) : Int) * (n : Int) > 2 ^ 48) := by omega
  have hz : ∀ m : Nat, (Array.range m).map (fun i => (#[Value.int IntKind.i64 0] : Array Value)[i % 1]!) = (ints (List.replicate m 0)).toArray := by
    intro m
    apply Array.ext
    · simp [ints]
    · intro i hi1 hi2
      simp [ints, Nat.mod_one]
  have ha : ∀ (k : Int) (w : World), (asInt (.int .i64 k)).run c.P w = .ok k w := fun k w => by simp [asInt, asIntOf, Sem.run_bind]
  simp only [execOp, hx, hy, Instr.makeSlice, Sem.run_bind, run_underlying hT.und, Result.andThen_ok, ha, Sem.run_pure, hi1, hi2, hwr]
  have h3 : (decide ((n : Int) < 0) || decide (((8 : Nat) : Int) * (n : Int) > 2 ^ 48)) = false := by simp; omega
  simp only [h3, Bool.false_eq_true, false_or, h1, if_false, gt_iff_lt, Int.lt_irrefl, Sem.run_ite, or_self]
  rcases Nat.eq_zero_or_pos n with h0 | h0
  · subst h0
    simp [run_askRoom, hE.run_size, newRow, Sem.run_bind, ints]
    congr 2; apply Array.ext <;> simp
  · have h4 : ¬ (n = 0) := by omega
    have hz' : (Array.range n).map (fun x => [Value.int IntKind.i64 0][x % 1]?.getD default) = (ints (List.replicate n 0)).toArray := by
      rw [← hz n]
      apply Array.ext <;> simp
    simp [run_askRoom, hE.run_size, newRow, Sem.run_bind, hz2, hz1, h4]
    rw [if_neg (by omega), hz']
/-- A function value that holds captured values is called. -/
theorem RL.fnV {f : FuncId} {caps vals : List Value} {Lp Lr : List Ent} {R : Value → List Ent → Prop} {cal : Operand} {xs : Array Operand} {ts : Array TypeId} (hq : c.q = false) (hw : wantE c.n ol ρ ⟨d, .call ⟨.value cal, xs, ts⟩, ty, pos, af, g⟩ = true)
    (hf : evE c.n ρ cal = .func (.func f) #[] caps.toArray) (he : ∀ args w, (callFunc f args).run c.P w = .ok (.enter f args) w) (hL : L.Perm (Lp ++ Lr)) (ha : argsE c.n ρ xs = vals) (hc : ∀ w, St c.w0 c.S w (Lp ++ Lr) → Ctr c.P f (vals ++ caps) w Lp R)
    (h : ∀ v L', R v L' → withV v fun v => RL c ol rest K Qp (updO ρ d v) ds (L' ++ Lr)) : RL c ol (⟨d, .call ⟨.value cal, xs, ts⟩, ty, pos, af, g⟩ :: rest) K Qp ρ ds L := by
  refine RL.enter (f := f) (args := (vals ++ caps).toArray) hq hw rfl (fun w => ?_) (fun w hst => ?_)
  · subst ha
    simp [execOp, resolve, Deferred.ofValue, hf, invoke, Sem.run_bind, he, argsE, ← Array.toList_map]
  · have hst' := hst.perm hL.symm
    refine CallsIn.mono (hc w hst') ?_
    rintro e w' ⟨v, L', rfl, h2, h3⟩
    refine ⟨L' ++ Lr, hst'.comp h2, ?_⟩
    have := h v L' h3
    rw [withV_eq] at this
    exact this
theorem RL.max2 {k : IntKind} {a b : Int} {t1 t2 : TypeId} (hw : wantE c.n ol ρ ⟨d, .call ⟨.builtin .max, #[x, y], #[t1, t2]⟩, ty, pos, af, g⟩ = true) (hx : evE c.n ρ x = .int k a) (hy : evE c.n ρ y = .int k b) (h : RL c ol rest K Qp (updO ρ d (.int k (max a b))) ds L) :
    RL c ol (⟨d, .call ⟨.builtin .max, #[x, y], #[t1, t2]⟩, ty, pos, af, g⟩ :: rest) K Qp ρ ds L :=
  RL.pure hw rfl (fun w => by
    have e : (if b > a then b else a) = max a b := by omega
    simp [execOp, resolve, invoke, builtin, hx, hy, Sem.run_bind, Builtin.max_, Builtin.max2, e]) h
/-- A store into a row of numbers that fills its block. -/
theorem RL.stRow {M : List Int} {i : Nat} {v : Int} {bb tt : Nat} {L' : List Ent} (hq : c.q = false) (hw : wantE c.n ol ρ ⟨d, .store t x y, ty, pos, af, g⟩ = true) (hs : ∀ w, (sizeOf t).run c.P w = .ok 1 w) (hx : evE c.n ρ x = .pointer (some ⟨bb, 0 + i * 1, none⟩)) (hy : evE c.n ρ y = .int .i64 v) (hi : i < M.length)
    [hp : PutE bb (fun _ => ints (M.set i v)) tt (ints M) L L'] (h : RL c ol rest K Qp (updO ρ d undef) ds L') : RL c ol (⟨d, .store t x y, ty, pos, af, g⟩ :: rest) K Qp ρ ds L := by
  refine RL.storeG (ls := [.int .i64 v]) (l := ints M) (fun _ => ints (M.set i v)) hq hw hs hx hy rfl (by simp [Value.oneCell']) (by rw [ints_length]; simp; omega) ?_ h
  have h1 := ints_set (xs := M) (junk := []) (x := v) hi
  rw [List.append_nil, List.append_nil, List.set_eq_take_append_cons_drop, if_pos (by rw [ints_length]; omega)] at h1
  rw [← h1]; simp
end
theorem ints_get2 {M : List Int} {k : Nat} {v : Int} (h : M[k]? = some v) : (ints M)[0 + k * 1]? = some (.int .i64 v) := by rw [Nat.zero_add, Nat.mul_one]; exact ints_get h
section
variable {c : Cx} {fn : Func} {R : Value → List Ent → Prop} {ρ : Env} {L : List Ent}
theorem resc3 {P : Program} {p t u : Nat} {ty tt : TypeId} (h : fn.results = #[.cell p ty, .tmp t, .tmp u]) {n : Nat} {ds : Ds} {b : Nat} {v : Value} {l : List Value} {fr : Nat × Nat} {w0 w : World} {S : List Nat} (hp : evE n ρ (.tmp p) = .pointer (some ⟨b, 0, none⟩)) (hT : Scalar P ty) (hst : St w0 S w L) (hm : (b, Obj.cells l.toArray tt fr) ∈ L) (hv : l[0]? = some v) :
    (results fn (act n ρ ds).tmps).run P w = .ok (.tuple #[v, evE n ρ (.tmp t), evE n ρ (.tmp u)]) w := by
  have e : ∀ t, (act n ρ ds).tmps[t]?.getD undef = evE n ρ (.tmp t) := fun t => by have := act_get n ρ ds t; simpa [evE] using this
  have := run_loadS (P := P) hT (show w.cell? ⟨b, 0, none⟩ = some v by rw [hst.cellO hm, hv])
  simp [results, h, e, hp, asAddr, Sem.run_bind, this]
theorem retc3 {p t u b : Nat} {ty tt : TypeId} {v : Value} {l : List Value} {fr : Nat × Nat} (hr : fn.results = #[.cell p ty, .tmp t, .tmp u]) (hT : Scalar c.P ty) (hp : evE c.n ρ (.tmp p) = .pointer (some ⟨b, 0, none⟩)) [hm : HasE b (.cells l.toArray tt fr) L] (hv : l[0]? = some v)
    (h : withV (evE c.n ρ (.tmp t)) fun v1 => withV (evE c.n ρ (.tmp u)) fun v2 => R (.tuple #[v, v1, v2]) L) : RetQ c fn R .ret ρ [] L :=
  ret_of (fun w hw => resc3 hr hp hT hw hm.out hv) (by simp only [withV_eq] at h; exact h)
end
end Go.Proofs.Ytnebpklmbefmfaa
