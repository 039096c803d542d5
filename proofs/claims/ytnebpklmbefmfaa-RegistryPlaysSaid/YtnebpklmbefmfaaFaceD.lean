/- Faces as data, found and judged, in plain Lean. -/
import Derived.Test.YtnebpklmbefmfaaCode
import Derived.Test.YtnebpklmbefmfaaSymPtr
set_option linter.unusedVariables false
set_option linter.unusedSimpArgs false
namespace Go.Proofs.Ytnebpklmbefmfaa
open Go.RowKit
structure Face where
  id : List Int
  base : Int
  deriving DecidableEq
def gcells (id : List Int) : List Value := id.map (Value.int .u8)
def Face.cells (f : Face) : List Value := gcells f.id ++ [.int .i64 f.base]
def FaceOk (f : Face) : Prop := f.id.length = 16
def fcells (fs : List Face) : List Value := (fs.map Face.cells).flatten
theorem Face.len {f : Face} (h : FaceOk f) : f.cells.length = 17 := by simp [Face.cells, gcells, show f.id.length = 16 from h]
theorem Face.idcells {f : Face} (h : FaceOk f) : (f.cells.drop 0).take 16 = gcells f.id := by
  have : (gcells f.id).length = 16 := by simp [gcells, show f.id.length = 16 from h]
  rw [List.drop_zero, Face.cells, List.take_append_of_le_length (by omega), List.take_of_length_le (by omega)]
theorem Face.basecell {f : Face} (h : FaceOk f) : f.cells[16]? = some (.int .i64 f.base) := by
  have : (gcells f.id).length = 16 := by simp [gcells, show f.id.length = 16 from h]
  rw [Face.cells, List.getElem?_append_right (by omega), this]; rfl
theorem gcells_length {id : List Int} (h : id.length = 16) : (gcells id).length = 16 := by simp [gcells, h]
theorem face_one (f : Face) : ∀ u ∈ f.cells, u.oneCell' = true := by
  intro u hu
  simp only [Face.cells, gcells, List.mem_append, List.mem_map, List.mem_singleton] at hu
  rcases hu with ⟨x, _, rfl⟩ | rfl <;> rfl
theorem fcells_len {fs : List Face} (h : ∀ f ∈ fs, FaceOk f) : (fcells fs).length = fs.length * 17 := by
  induction fs with
  | nil => rfl
  | cons f fs ih =>
    have h1 := Face.len (h f (by simp))
    have h2 := ih (fun g hg => h g (by simp [hg]))
    simp only [fcells, List.map_cons, List.flatten_cons, List.length_append, List.length_cons] at h2 ⊢
    omega
theorem face_at {w : World} {b o : Nat} {fs : List Face} (hc : CellsAt w b o (fcells fs)) (hok : ∀ f ∈ fs, FaceOk f) {i : Nat} {f : Face} (hf : fs[i]? = some f) : CellsAt w b (o + i * 17) f.cells :=
  cells_row (sz := 17) hc (fun r hr => by obtain ⟨g, hg, rfl⟩ := List.mem_map.1 hr; exact Face.len (hok g hg)) (by simp [hf])
theorem gcells_inj {a b : List Int} (h : gcells a = gcells b) : a = b := by
  induction a generalizing b with
  | nil => cases b with
    | nil => rfl
    | cons y ys => simp [gcells] at h
  | cons x xs ih => cases b with
    | nil => simp [gcells] at h
    | cons y ys =>
      simp only [gcells, List.map_cons, List.cons.injEq, Value.int.injEq, true_and] at h
      rw [h.1, ih h.2]
/-- '==' of two names. -/
theorem eq_guid {a b : List Int} (ha : a.length = 16) (hb : b.length = 16) : EqR Try.prog 10000 47 (.agg (gcells a).toArray) (.agg (gcells b).toArray) (a = b) := by
  obtain ⟨i, hi⟩ := info_of_underlying (P := Try.prog) Try.underlying5
  refine (EqR.array (d := 9999) (sz := 1) (p := fun i => a[i]? = b[i]?) Try.underlying47 hi (by kernel_rfl) (fun i hi => ?_)).congr ?_
  · have h1 : i < a.length := by omega
    have h2 : i < b.length := by omega
    refine ⟨.int .u8 a[i], .int .u8 b[i], part_s sc5 (by simp [gcells, h1]), part_s sc5 (by simp [gcells, h2]), ?_⟩
    refine (EqR.int (d := 9998) Try.underlying5).congr ?_
    rw [List.getElem?_eq_getElem h1, List.getElem?_eq_getElem h2]; simp
  · constructor
    · intro h
      apply List.ext_getElem? ; intro i
      by_cases hi : i < 16
      · exact h i hi
      · rw [List.getElem?_eq_none (by omega), List.getElem?_eq_none (by omega)]
    · rintro rfl i _; rfl
theorem eqg_guid : Try.prog.eqGuardType Try.prog.depth 47 = false := by kernel_rfl
theorem eqg_face : Try.prog.eqGuardType Try.prog.depth 93 = false := by kernel_rfl
theorem eq_face {f g : Face} (hf : FaceOk f) (hg : FaceOk g) : EqR Try.prog 10000 93 (.agg f.cells.toArray) (.agg g.cells.toArray) (f = g) := by
  refine (EqR.struct (d := 9999) Try.underlying93 (by kernel_rfl) (FldsR.cons (by decide) (p := f.id = g.id) ⟨.agg (gcells f.id).toArray, .agg (gcells g.id).toArray, part_a ag47 ?_, part_a ag47 ?_, ?_⟩ (FldsR.cons (by decide) (p := f.base = g.base) ⟨.int .i64 f.base, .int .i64 g.base, part_s sc3 ?_, part_s sc3 ?_, EqR.int (d := 9998) Try.underlying3⟩ FldsR.nil))).congr ?_
  · have : f.id.length = 16 := hf
    simp [Face.cells, gcells, ← this]
  · have : g.id.length = 16 := hg
    simp [Face.cells, gcells, ← this]
  · intro w
    obtain ⟨r, h1, h2⟩ := eq_guid hf hg w
    obtain ⟨i, hi⟩ := info_of_underlying (P := Try.prog) Try.underlying5
    refine (EqR.array (d := 9998) (sz := 1) (p := fun i => f.id[i]? = g.id[i]?) Try.underlying47 hi (by kernel_rfl) (fun i hi => ?_)).congr ?_ w
    · have h1 : i < f.id.length := by have : f.id.length = 16 := hf; omega
      have h2 : i < g.id.length := by have : g.id.length = 16 := hg; omega
      refine ⟨.int .u8 f.id[i], .int .u8 g.id[i], part_s sc5 (by simp [gcells, h1]), part_s sc5 (by simp [gcells, h2]), ?_⟩
      refine (EqR.int (d := 9997) Try.underlying5).congr ?_
      rw [List.getElem?_eq_getElem h1, List.getElem?_eq_getElem h2]; simp
    · have e1 : f.id.length = 16 := hf
      have e2 : g.id.length = 16 := hg
      constructor
      · intro h
        apply List.ext_getElem? ; intro i
        by_cases hi : i < 16
        · exact h i hi
        · rw [List.getElem?_eq_none (by omega), List.getElem?_eq_none (by omega)]
      · rintro h i _; rw [h]
  · have : f.id.length = 16 := hf
    simp [Face.cells, gcells, ← this]
  · have : g.id.length = 16 := hg
    simp [Face.cells, gcells, ← this]
  · constructor
    · rintro ⟨h1, h2, _⟩; cases f; cases g; simp_all
    · rintro rfl; exact ⟨rfl, rfl, trivial⟩
/-! What is reckoned. -/
def findP (fs : List Face) (id : List Int) : Option Nat := fs.findIdx? (fun f => f.id == id)
theorem face_id_at {w : World} {b o : Nat} {fs : List Face} (hc : CellsAt w b o (fcells fs)) (hok : ∀ f ∈ fs, FaceOk f) {i : Nat} {f : Face} (hf : fs[i]? = some f) : CellsAt w b (o + i * 17 + 0) (gcells f.id) := by
  have := (face_at hc hok hf).sub 0 16
  rwa [Face.idcells (hok f (List.mem_of_getElem? hf))] at this
theorem face_base_at {w : World} {b o : Nat} {fs : List Face} (hc : CellsAt w b o (fcells fs)) (hok : ∀ f ∈ fs, FaceOk f) {i : Nat} {f : Face} (hf : fs[i]? = some f) : w.cell? ⟨b, o + i * 17 + 16, none⟩ = some (.int .i64 f.base) :=
  face_at hc hok hf 16 _ (Face.basecell (hok f (List.mem_of_getElem? hf)))
/-! Finding. -/
theorem findP_some {fs : List Face} {id : List Int} {g : Nat} {f : Face} (hf : fs[g]? = some f) (he : f.id = id) (hno : ∀ j f, j < g → fs[j]? = some f → f.id ≠ id) : findP fs id = some g := by
  have hg := (List.getElem?_eq_some_iff.1 hf).1
  unfold findP
  rw [List.findIdx?_eq_some_iff_getElem]
  refine ⟨hg, ?_, fun j hj => ?_⟩
  · rw [List.getElem?_eq_getElem hg] at hf; rw [Option.some.inj hf]; simp [he]
  · simpa using hno j _ hj (List.getElem?_eq_getElem (by omega))
theorem findP_none {fs : List Face} {id : List Int} (hno : ∀ j f, j < fs.length → fs[j]? = some f → f.id ≠ id) : findP fs id = none := by
  unfold findP
  rw [List.findIdx?_eq_none_iff]
  intro f hf
  obtain ⟨j, hj⟩ := List.getElem?_of_mem hf
  simpa using hno j f (List.getElem?_eq_some_iff.1 hj).1 hj
theorem findP_self {fs : List Face} {g : Nat} {f : Face} (hf : fs[g]? = some f) : ∃ k, findP fs f.id = some k ∧ k ≤ g ∧ (k < g → ∃ h, fs[k]? = some h ∧ h.id = f.id) ∧ (k = g → ∀ j h, j < g → fs[j]? = some h → h.id ≠ f.id) := by
  have hg := (List.getElem?_eq_some_iff.1 hf).1
  cases hk : findP fs f.id with
  | none =>
    unfold findP at hk
    rw [List.findIdx?_eq_none_iff] at hk
    have := hk f (List.mem_of_getElem? hf)
    simp at this
  | some k =>
    unfold findP at hk
    obtain ⟨h1, h2, h3⟩ := List.findIdx?_eq_some_iff_getElem.1 hk
    refine ⟨k, rfl, ?_, ?_, ?_⟩
    · apply Nat.le_of_not_lt
      intro hlt
      have := h3 g hlt
      rw [List.getElem?_eq_getElem hg] at hf
      rw [Option.some.inj hf] at this; simp at this
    · exact fun _ => ⟨_, List.getElem?_eq_getElem h1, by simpa using h2⟩
    · rintro rfl j h hj hh
      have := h3 j hj
      rw [List.getElem?_eq_getElem (by omega)] at hh
      rw [Option.some.inj hh] at this; simpa using this
/-! Verdicts. -/
def twin (fs : List Face) (i : Nat) (f : Face) : Bool := (List.range i).any fun j => match fs[j]? with | some h => h.id == f.id | none => false
theorem twin_iff {fs : List Face} {i : Nat} {f : Face} : twin fs i f = true ↔ ∃ j h, j < i ∧ fs[j]? = some h ∧ h.id = f.id := by
  unfold twin
  rw [List.any_eq_true]
  constructor
  · rintro ⟨j, hj, h⟩
    cases hh : fs[j]? with
    | none => simp [hh] at h
    | some x => exact ⟨j, x, by simpa using hj, hh, by simpa [hh] using h⟩
  · rintro ⟨j, x, hj, hh, he⟩
    exact ⟨j, by simpa using hj, by simp [hh, he]⟩
def badBase (i : Nat) (b : Int) : Prop := (i = 0 ∧ b ≠ -1) ∨ (0 < i ∧ (b < 0 ∨ b ≥ i))
instance (i : Nat) (b : Int) : Decidable (badBase i b) := by unfold badBase; infer_instance
def verF (fs : List Face) (i : Nat) (f : Face) : Option Int := if badBase i f.base then some 5 else if twin fs i f = true then some 13 else none
def fverI (fs : List Face) (i : Nat) : Option Int := (fs[i]?).bind (verF fs i)
def fcheckP (fs : List Face) : Int := if fs.length < 1 ∨ 16 < fs.length then 20 else ((List.range fs.length).findSome? (fverI fs)).getD 0
theorem fcheckP_len {fs : List Face} (h : fs.length < 1 ∨ 16 < fs.length) : fcheckP fs = 20 := if_pos h
theorem findSome_hit {α : Type} {p : Nat → Option α} {n g : Nat} {e : α} (hg : g < n) (hno : ∀ j, j < g → p j = none) (he : p g = some e) : (List.range n).findSome? p = some e := by
  rw [show n = g + (n - g) from by omega, List.range_add, List.findSome?_append]
  have h1 : (List.range g).findSome? p = none := List.findSome?_eq_none_iff.2 fun j hj => hno j (by simpa using hj)
  rw [h1, show n - g = (n - g - 1) + 1 from by omega, List.range_succ_eq_map]
  simp [he]
theorem fcheckP_hit {fs : List Face} (hl : ¬ (fs.length < 1 ∨ 16 < fs.length)) {g : Nat} {e : Int} {f : Face} (hf : fs[g]? = some f) (hno : ∀ j, j < g → fverI fs j = none) (he : verF fs g f = some e) : fcheckP fs = e := by
  unfold fcheckP
  rw [if_neg hl, findSome_hit (List.getElem?_eq_some_iff.1 hf).1 hno (e := e) (by unfold fverI; rw [hf]; exact he)]; rfl
theorem fcheckP_ok {fs : List Face} (hl : ¬ (fs.length < 1 ∨ 16 < fs.length)) (hno : ∀ j, j < fs.length → fverI fs j = none) : fcheckP fs = 0 := by
  unfold fcheckP
  rw [if_neg hl, List.findSome?_eq_none_iff.2 fun j hj => hno j (by simpa using hj)]; rfl
theorem fverI_next {fs : List Face} {g : Nat} {f : Face} (hf : fs[g]? = some f) (hno : ∀ j, j < g → fverI fs j = none) (he : verF fs g f = none) : ∀ j, j < g + 1 → fverI fs j = none := by
  intro j hj
  rcases Nat.lt_succ_iff_lt_or_eq.1 hj with h | rfl
  · exact hno j h
  · unfold fverI; rw [hf]; exact he
theorem verF_bad {fs : List Face} {g : Nat} {f : Face} (h : badBase g f.base) : verF fs g f = some 5 := if_pos h
theorem verF_twin {fs : List Face} {g j : Nat} {f h : Face} (hb : ¬ badBase g f.base) (hj : j < g) (hh : fs[j]? = some h) (he : h.id = f.id) : verF fs g f = some 13 := by
  unfold verF; rw [if_neg hb, if_pos (twin_iff.2 ⟨j, h, hj, hh, he⟩)]
theorem verF_fine {fs : List Face} {g : Nat} {f : Face} (hb : ¬ badBase g f.base) (hno : ∀ j h, j < g → fs[j]? = some h → h.id ≠ f.id) : verF fs g f = none := by
  unfold verF; rw [if_neg hb, if_neg]
  rw [twin_iff]; rintro ⟨j, h, h1, h2, h3⟩; exact hno j h h1 h2 h3
/-! Lines. -/
end Go.Proofs.Ytnebpklmbefmfaa
