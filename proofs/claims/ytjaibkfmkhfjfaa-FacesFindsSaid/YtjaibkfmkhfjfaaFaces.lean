/- Reading slices; faces as data; what the layer's functions reckon, in plain Lean. -/
import Derived.Test.YtjaibkfmkhfjfaaTypes
import Derived.Test.YtjaibkfmkhfjfaaSymEq
import Derived.Test.YtjaibkfmkhfjfaaSymMem
import Derived.Test.YtjaibkfmkhfjfaaSymRange
set_option linter.unusedVariables false
namespace Go.Proofs.Ytjaibkfmkhfjfaa
open Go.RowKit
/-- A slice that starts at A reads as these cells. -/
def Rd (w : World) (A : Option Addr) (cs : List Value) : Prop := ∃ b o, (0 < cs.length → A = some ⟨b, o, none⟩) ∧ CellsAt w b o cs
theorem Rd.nil (w : World) (A : Option Addr) : Rd w A [] := ⟨0, 0, fun h => by simp at h, fun j v hv => by simp at hv⟩
theorem Rd.st {w0 w : World} {S : List Nat} {L : List Ent} {A : Option Addr} {cs : List Value} (h : Rd w0 A cs) (hst : St w0 S w L) (hS : ∀ k ∈ S, w0.heap.size ≤ k) : Rd w A cs := by
  obtain ⟨b, o, h1, h2⟩ := h
  refine ⟨b, o, h1, fun j v hv => ?_⟩
  refine hst.cellI (h2 j v hv) (fun hm => ?_)
  have := World.block_lt_of_cell? _ _ (h2 j v hv)
  have := hS _ hm
  simp only at *
  omega
theorem Rd.st0 {w0 w : World} {L : List Ent} {A : Option Addr} {cs : List Value} (h : Rd w0 A cs) (hst : St w0 [] w L) : Rd w A cs := h.st hst (by simp)
theorem Rd.lt {w : World} {b o : Nat} {cs : List Value} (h : CellsAt w b o cs) (h0 : 0 < cs.length) : b < w.heap.size := World.block_lt_of_cell? _ _ (h 0 cs[0] (by simp [h0]))
theorem Row.rd {e sz : Nat} {v : Value} {xs : List Value} {Lr L : List Ent} {w0 w : World} {S : List Nat} (h : Row e sz v xs Lr) (hst : St w0 S w L) (hs : ∀ p ∈ Lr, p ∈ L) : ∃ A m cp, v = .slice A m cp ∧ xs.length = m * sz ∧ m ≤ cp ∧ Rd w A xs := by
  obtain ⟨A, m, cp, h1, h2, h3, h4⟩ := h.reads hst hs
  refine ⟨A, m, cp, h1, h2, h3, ?_⟩
  rcases h4 with ⟨rfl, rfl⟩ | ⟨b, rfl, hc⟩
  · exact Rd.nil _ _
  · exact ⟨b, 0, fun _ => rfl, hc⟩
/-- The i-th of rows of equal lengths. -/
theorem flat_get {sz : Nat} : ∀ {rows : List (List Value)} (_ : ∀ r ∈ rows, r.length = sz) (i : Nat) (r : List Value), rows[i]? = some r → (rows.flatten.drop (i * sz)).take sz = r
  | [], _, i, r, h => by simp at h
  | r0 :: rows, hall, 0, r, h => by
    have h0 := hall r0 (by simp)
    simp at h; subst h
    simp [← h0]
  | r0 :: rows, hall, i + 1, r, h => by
    have h0 := hall r0 (by simp)
    have := flat_get (rows := rows) (fun r hr => hall r (by simp [hr])) i r (by simpa using h)
    have e : (r0 ++ rows.flatten).drop ((i + 1) * sz) = rows.flatten.drop (i * sz) := by
      rw [Nat.add_mul, Nat.one_mul, Nat.add_comm, ← List.drop_drop]
      congr 1
      rw [← h0]; simp
    rw [List.flatten_cons, e]; exact this
theorem cells_row {w : World} {b o sz : Nat} {rows : List (List Value)} (h : CellsAt w b o rows.flatten) (hall : ∀ r ∈ rows, r.length = sz) {i : Nat} {r : List Value} (hr : rows[i]? = some r) : CellsAt w b (o + i * sz) r := by
  have := h.sub (i * sz) sz
  rwa [flat_get hall i r hr] at this
def ints (xs : List Int) : List Value := xs.map (Value.int .i64)
theorem ints_length (xs : List Int) : (ints xs).length = xs.length := by simp [ints]
theorem ints_append (xs ys : List Int) : ints (xs ++ ys) = ints xs ++ ints ys := by simp [ints]
theorem ints_get {xs : List Int} {i : Nat} {x : Int} (h : xs[i]? = some x) : (ints xs)[i]? = some (.int .i64 x) := by simp [ints, h]
theorem ints_inj {xs ys : List Int} (h : ints xs = ints ys) : xs = ys := by
  induction xs generalizing ys with
  | nil => cases ys with
    | nil => rfl
    | cons y ys => simp [ints] at h
  | cons x xs ih => cases ys with
    | nil => simp [ints] at h
    | cons y ys =>
      simp only [ints, List.map_cons, List.cons.injEq, Value.int.injEq, true_and] at h
      rw [h.1, ih h.2]
theorem take_all {l : List Value} {n : Nat} (h : l.length = n) : (l.drop 0).take n = l := by rw [List.drop_zero]; exact List.take_of_length_le (by omega)
structure Face where
  id : List Int
  base : Int
  deriving DecidableEq
def gcells (id : List Int) : List Value := id.map (Value.int .u8)
def Face.cells (f : Face) : List Value := gcells f.id ++ [.int .i64 f.base]
def FaceOk (f : Face) : Prop := f.id.length = 16
def fcells (fs : List Face) : List Value := (fs.map Face.cells).flatten
theorem Face.len {f : Face} (h : FaceOk f) : f.cells.length = 17 := by simp [Face.cells, gcells, show f.id.length = 16 from h]
theorem Face.idcells {f : Face} (h : FaceOk f) : (f.cells.drop 0).take 16 = gcells f.id := by
  have : (gcells f.id).length = 16 := by simp [gcells, show f.id.length = 16 from h]
  rw [List.drop_zero, Face.cells, List.take_append_of_le_length (by omega), List.take_of_length_le (by omega)]
theorem Face.basecell {f : Face} (h : FaceOk f) : f.cells[16]? = some (.int .i64 f.base) := by
  have : (gcells f.id).length = 16 := by simp [gcells, show f.id.length = 16 from h]
  rw [Face.cells, List.getElem?_append_right (by omega), this]; rfl
theorem gcells_length {id : List Int} (h : id.length = 16) : (gcells id).length = 16 := by simp [gcells, h]
theorem face_one (f : Face) : ∀ u ∈ f.cells, u.oneCell' = true := by
  intro u hu
  simp only [Face.cells, gcells, List.mem_append, List.mem_map, List.mem_singleton] at hu
  rcases hu with ⟨x, _, rfl⟩ | rfl <;> rfl
theorem fcells_len {fs : List Face} (h : ∀ f ∈ fs, FaceOk f) : (fcells fs).length = fs.length * 17 := by
  induction fs with
  | nil => rfl
  | cons f fs ih =>
    have h1 := Face.len (h f (by simp))
    have h2 := ih (fun g hg => h g (by simp [hg]))
    simp only [fcells, List.map_cons, List.flatten_cons, List.length_append, List.length_cons] at h2 ⊢
    omega
theorem face_at {w : World} {b o : Nat} {fs : List Face} (hc : CellsAt w b o (fcells fs)) (hok : ∀ f ∈ fs, FaceOk f) {i : Nat} {f : Face} (hf : fs[i]? = some f) : CellsAt w b (o + i * 17) f.cells :=
  cells_row (sz := 17) hc (fun r hr => by obtain ⟨g, hg, rfl⟩ := List.mem_map.1 hr; exact Face.len (hok g hg)) (by simp [hf])
theorem gcells_inj {a b : List Int} (h : gcells a = gcells b) : a = b := by
  induction a generalizing b with
  | nil => cases b with
    | nil => rfl
    | cons y ys => simp [gcells] at h
  | cons x xs ih => cases b with
    | nil => simp [gcells] at h
    | cons y ys =>
      simp only [gcells, List.map_cons, List.cons.injEq, Value.int.injEq, true_and] at h
      rw [h.1, ih h.2]
/-- '==' of two names. -/
theorem eq_guid {a b : List Int} (ha : a.length = 16) (hb : b.length = 16) : EqR Try.prog 10000 28 (.agg (gcells a).toArray) (.agg (gcells b).toArray) (a = b) := by
  obtain ⟨i, hi⟩ := info_of_underlying (P := Try.prog) Try.underlying5
  refine (EqR.array (d := 9999) (sz := 1) (p := fun i => a[i]? = b[i]?) Try.underlying28 hi (by kernel_rfl) (fun i hi => ?_)).congr ?_
  · have h1 : i < a.length := by omega
    have h2 : i < b.length := by omega
    refine ⟨.int .u8 a[i], .int .u8 b[i], part_s sc5 (by simp [gcells, h1]), part_s sc5 (by simp [gcells, h2]), ?_⟩
    refine (EqR.int (d := 9998) Try.underlying5).congr ?_
    rw [List.getElem?_eq_getElem h1, List.getElem?_eq_getElem h2]; simp
  · constructor
    · intro h
      apply List.ext_getElem? ; intro i
      by_cases hi : i < 16
      · exact h i hi
      · rw [List.getElem?_eq_none (by omega), List.getElem?_eq_none (by omega)]
    · rintro rfl i _; rfl
theorem eqg_guid : Try.prog.eqGuardType Try.prog.depth 28 = false := by kernel_rfl
theorem eqg_face : Try.prog.eqGuardType Try.prog.depth 30 = false := by kernel_rfl
theorem eq_face {f g : Face} (hf : FaceOk f) (hg : FaceOk g) : EqR Try.prog 10000 30 (.agg f.cells.toArray) (.agg g.cells.toArray) (f = g) := by
  refine (EqR.struct (d := 9999) Try.underlying30 (by kernel_rfl) (FldsR.cons (by decide) (p := f.id = g.id) ⟨.agg (gcells f.id).toArray, .agg (gcells g.id).toArray, part_a ag28 ?_, part_a ag28 ?_, ?_⟩ (FldsR.cons (by decide) (p := f.base = g.base) ⟨.int .i64 f.base, .int .i64 g.base, part_s sc3 ?_, part_s sc3 ?_, EqR.int (d := 9998) Try.underlying3⟩ FldsR.nil))).congr ?_
  · have : f.id.length = 16 := hf
    simp [Face.cells, gcells, ← this]
  · have : g.id.length = 16 := hg
    simp [Face.cells, gcells, ← this]
  · intro w
    obtain ⟨r, h1, h2⟩ := eq_guid hf hg w
    obtain ⟨i, hi⟩ := info_of_underlying (P := Try.prog) Try.underlying5
    refine (EqR.array (d := 9998) (sz := 1) (p := fun i => f.id[i]? = g.id[i]?) Try.underlying28 hi (by kernel_rfl) (fun i hi => ?_)).congr ?_ w
    · have h1 : i < f.id.length := by have : f.id.length = 16 := hf; omega
      have h2 : i < g.id.length := by have : g.id.length = 16 := hg; omega
      refine ⟨.int .u8 f.id[i], .int .u8 g.id[i], part_s sc5 (by simp [gcells, h1]), part_s sc5 (by simp [gcells, h2]), ?_⟩
      refine (EqR.int (d := 9997) Try.underlying5).congr ?_
      rw [List.getElem?_eq_getElem h1, List.getElem?_eq_getElem h2]; simp
    · have e1 : f.id.length = 16 := hf
      have e2 : g.id.length = 16 := hg
      constructor
      · intro h
        apply List.ext_getElem? ; intro i
        by_cases hi : i < 16
        · exact h i hi
        · rw [List.getElem?_eq_none (by omega), List.getElem?_eq_none (by omega)]
      · rintro h i _; rw [h]
  · have : f.id.length = 16 := hf
    simp [Face.cells, gcells, ← this]
  · have : g.id.length = 16 := hg
    simp [Face.cells, gcells, ← this]
  · constructor
    · rintro ⟨h1, h2, _⟩; cases f; cases g; simp_all
    · rintro rfl; exact ⟨rfl, rfl, trivial⟩
/-! What is reckoned. -/
def findP (fs : List Face) (id : List Int) : Option Nat := fs.findIdx? (fun f => f.id == id)
def lineF (fs : List Face) : Nat → Int → List Int
  | 0, _ => []
  | n + 1, a => if 0 ≤ a ∧ a < fs.length then (match fs[a.toNat]? with | some f => if f.base ≥ a then [a] else a :: lineF fs n f.base | none => []) else []
def lineP (fs : List Face) (a : Int) : List Int := lineF fs (a.toNat + 1) a
end Go.Proofs.Ytjaibkfmkhfjfaa
