/- The faces' plain laws: lines, verdicts, what two lines share. No program in sight. -/
import Derived.Test.YtjaibkfmkhfjfaaFaces
set_option linter.unusedVariables false
namespace Go.Proofs.Ytjaibkfmkhfjfaa
open Go.RowKit
theorem face_id_at {w : World} {b o : Nat} {fs : List Face} (hc : CellsAt w b o (fcells fs)) (hok : ∀ f ∈ fs, FaceOk f) {i : Nat} {f : Face} (hf : fs[i]? = some f) : CellsAt w b (o + i * 17 + 0) (gcells f.id) := by
  have := (face_at hc hok hf).sub 0 16
  rwa [Face.idcells (hok f (List.mem_of_getElem? hf))] at this
theorem face_base_at {w : World} {b o : Nat} {fs : List Face} (hc : CellsAt w b o (fcells fs)) (hok : ∀ f ∈ fs, FaceOk f) {i : Nat} {f : Face} (hf : fs[i]? = some f) : w.cell? ⟨b, o + i * 17 + 16, none⟩ = some (.int .i64 f.base) :=
  face_at hc hok hf 16 _ (Face.basecell (hok f (List.mem_of_getElem? hf)))
/-! Finding. -/
theorem findP_some {fs : List Face} {id : List Int} {g : Nat} {f : Face} (hf : fs[g]? = some f) (he : f.id = id) (hno : ∀ j f, j < g → fs[j]? = some f → f.id ≠ id) : findP fs id = some g := by
  have hg := (List.getElem?_eq_some_iff.1 hf).1
  unfold findP
  rw [List.findIdx?_eq_some_iff_getElem]
  refine ⟨hg, ?_, fun j hj => ?_⟩
  · rw [List.getElem?_eq_getElem hg] at hf; rw [Option.some.inj hf]; simp [he]
  · simpa using hno j _ hj (List.getElem?_eq_getElem (by omega))
theorem findP_none {fs : List Face} {id : List Int} (hno : ∀ j f, j < fs.length → fs[j]? = some f → f.id ≠ id) : findP fs id = none := by
  unfold findP
  rw [List.findIdx?_eq_none_iff]
  intro f hf
  obtain ⟨j, hj⟩ := List.getElem?_of_mem hf
  simpa using hno j f (List.getElem?_eq_some_iff.1 hj).1 hj
theorem findP_self {fs : List Face} {g : Nat} {f : Face} (hf : fs[g]? = some f) : ∃ k, findP fs f.id = some k ∧ k ≤ g ∧ (k < g → ∃ h, fs[k]? = some h ∧ h.id = f.id) ∧ (k = g → ∀ j h, j < g → fs[j]? = some h → h.id ≠ f.id) := by
  have hg := (List.getElem?_eq_some_iff.1 hf).1
  cases hk : findP fs f.id with
  | none =>
    unfold findP at hk
    rw [List.findIdx?_eq_none_iff] at hk
    have := hk f (List.mem_of_getElem? hf)
    simp at this
  | some k =>
    unfold findP at hk
    obtain ⟨h1, h2, h3⟩ := List.findIdx?_eq_some_iff_getElem.1 hk
    refine ⟨k, rfl, ?_, ?_, ?_⟩
    · apply Nat.le_of_not_lt
      intro hlt
      have := h3 g hlt
      rw [List.getElem?_eq_getElem hg] at hf
      rw [Option.some.inj hf] at this; simp at this
    · exact fun _ => ⟨_, List.getElem?_eq_getElem h1, by simpa using h2⟩
    · rintro rfl j h hj hh
      have := h3 j hj
      rw [List.getElem?_eq_getElem (by omega)] at hh
      rw [Option.some.inj hh] at this; simpa using this
/-! Verdicts. -/
def twin (fs : List Face) (i : Nat) (f : Face) : Bool := (List.range i).any fun j => match fs[j]? with | some h => h.id == f.id | none => false
theorem twin_iff {fs : List Face} {i : Nat} {f : Face} : twin fs i f = true ↔ ∃ j h, j < i ∧ fs[j]? = some h ∧ h.id = f.id := by
  unfold twin
  rw [List.any_eq_true]
  constructor
  · rintro ⟨j, hj, h⟩
    cases hh : fs[j]? with
    | none => simp [hh] at h
    | some x => exact ⟨j, x, by simpa using hj, hh, by simpa [hh] using h⟩
  · rintro ⟨j, x, hj, hh, he⟩
    exact ⟨j, by simpa using hj, by simp [hh, he]⟩
def badBase (i : Nat) (b : Int) : Prop := (i = 0 ∧ b ≠ -1) ∨ (0 < i ∧ (b < 0 ∨ b ≥ i))
instance (i : Nat) (b : Int) : Decidable (badBase i b) := by unfold badBase; infer_instance
def verF (fs : List Face) (i : Nat) (f : Face) : Option Int := if badBase i f.base then some 5 else if twin fs i f = true then some 13 else none
def verI (fs : List Face) (i : Nat) : Option Int := (fs[i]?).bind (verF fs i)
def checkP (fs : List Face) : Int := if fs.length < 1 ∨ 16 < fs.length then 20 else ((List.range fs.length).findSome? (verI fs)).getD 0
theorem checkP_len {fs : List Face} (h : fs.length < 1 ∨ 16 < fs.length) : checkP fs = 20 := if_pos h
theorem findSome_hit {α : Type} {p : Nat → Option α} {n g : Nat} {e : α} (hg : g < n) (hno : ∀ j, j < g → p j = none) (he : p g = some e) : (List.range n).findSome? p = some e := by
  rw [show n = g + (n - g) from by omega, List.range_add, List.findSome?_append]
  have h1 : (List.range g).findSome? p = none := List.findSome?_eq_none_iff.2 fun j hj => hno j (by simpa using hj)
  rw [h1, show n - g = (n - g - 1) + 1 from by omega, List.range_succ_eq_map]
  simp [he]
theorem checkP_hit {fs : List Face} (hl : ¬ (fs.length < 1 ∨ 16 < fs.length)) {g : Nat} {e : Int} {f : Face} (hf : fs[g]? = some f) (hno : ∀ j, j < g → verI fs j = none) (he : verF fs g f = some e) : checkP fs = e := by
  unfold checkP
  rw [if_neg hl, findSome_hit (List.getElem?_eq_some_iff.1 hf).1 hno (e := e) (by unfold verI; rw [hf]; exact he)]; rfl
theorem checkP_ok {fs : List Face} (hl : ¬ (fs.length < 1 ∨ 16 < fs.length)) (hno : ∀ j, j < fs.length → verI fs j = none) : checkP fs = 0 := by
  unfold checkP
  rw [if_neg hl, List.findSome?_eq_none_iff.2 fun j hj => hno j (by simpa using hj)]; rfl
theorem verI_next {fs : List Face} {g : Nat} {f : Face} (hf : fs[g]? = some f) (hno : ∀ j, j < g → verI fs j = none) (he : verF fs g f = none) : ∀ j, j < g + 1 → verI fs j = none := by
  intro j hj
  rcases Nat.lt_succ_iff_lt_or_eq.1 hj with h | rfl
  · exact hno j h
  · unfold verI; rw [hf]; exact he
theorem verF_bad {fs : List Face} {g : Nat} {f : Face} (h : badBase g f.base) : verF fs g f = some 5 := if_pos h
theorem verF_twin {fs : List Face} {g j : Nat} {f h : Face} (hb : ¬ badBase g f.base) (hj : j < g) (hh : fs[j]? = some h) (he : h.id = f.id) : verF fs g f = some 13 := by
  unfold verF; rw [if_neg hb, if_pos (twin_iff.2 ⟨j, h, hj, hh, he⟩)]
theorem verF_fine {fs : List Face} {g : Nat} {f : Face} (hb : ¬ badBase g f.base) (hno : ∀ j h, j < g → fs[j]? = some h → h.id ≠ f.id) : verF fs g f = none := by
  unfold verF; rw [if_neg hb, if_neg]
  rw [twin_iff]; rintro ⟨j, h, h1, h2, h3⟩; exact hno j h h1 h2 h3
/-! Lines. -/
theorem lineF_eq (fs : List Face) : ∀ n m a, (a + 1).toNat ≤ n → (a + 1).toNat ≤ m → lineF fs n a = lineF fs m a := by
  intro n
  induction n with
  | zero =>
    intro m a hn hm
    cases m with
    | zero => rfl
    | succ m =>
      have : a < 0 := by omega
      simp only [lineF]
      rw [if_neg (by omega)]
  | succ n ih =>
    intro m a hn hm
    cases m with
    | zero =>
      have : a < 0 := by omega
      simp only [lineF]
      rw [if_neg (by omega)]
    | succ m =>
      simp only [lineF]
      split
      · cases fs[a.toNat]? with
        | none => rfl
        | some f =>
          simp only []
          split
          · rfl
          · rw [ih m f.base (by omega) (by omega)]
      · rfl
theorem lineP_out {fs : List Face} {a : Int} (h : ¬ (0 ≤ a ∧ a < fs.length)) : lineP fs a = [] := by
  unfold lineP; simp only [lineF]; rw [if_neg h]
theorem lineP_step {fs : List Face} {a : Int} {f : Face} (h : 0 ≤ a ∧ a < fs.length) (hf : fs[a.toNat]? = some f) : lineP fs a = if f.base ≥ a then [a] else a :: lineP fs f.base := by
  unfold lineP; simp only [lineF]; rw [if_pos h, hf]
  simp only []
  split
  · rfl
  · congr 1
    have := lineF_eq fs a.toNat (f.base.toNat + 1) f.base (by omega) (by omega)
    rw [this]
    simp only [lineF]
theorem lineP_cons {fs : List Face} {a : Int} (h : 0 ≤ a ∧ a < fs.length) : ∃ r, lineP fs a = a :: r := by
  obtain ⟨f, hf⟩ : ∃ f, fs[a.toNat]? = some f := ⟨_, List.getElem?_eq_getElem (by omega)⟩
  rw [lineP_step h hf]
  split
  · exact ⟨_, rfl⟩
  · exact ⟨_, rfl⟩
theorem lineF_len (fs : List Face) : ∀ n a, (lineF fs n a).length ≤ (a + 1).toNat := by
  intro n
  induction n with
  | zero => intro a; simp [lineF]
  | succ n ih =>
    intro a
    simp only [lineF]
    split
    · cases hf : fs[a.toNat]? with
      | none => simp
      | some f =>
        simp only []
        split
        · simp only [List.length_singleton]; omega
        · have := ih f.base
          simp only [List.length_cons]; omega
    · simp
theorem lineP_len (fs : List Face) (a : Int) : (lineP fs a).length ≤ fs.length := by
  by_cases h : 0 ≤ a ∧ a < fs.length
  · have := lineF_len fs (a.toNat + 1) a
    unfold lineP; omega
  · rw [lineP_out h]; simp
theorem lineF_mem (fs : List Face) : ∀ n a x, x ∈ lineF fs n a → 0 ≤ x ∧ x < fs.length := by
  intro n
  induction n with
  | zero => intro a x h; simp [lineF] at h
  | succ n ih =>
    intro a x h
    simp only [lineF] at h
    split at h
    · rename_i hr
      cases hf : fs[a.toNat]? with
      | none => simp [hf] at h
      | some f =>
        rw [hf] at h
        simp only [] at h
        split at h
        · rw [List.mem_singleton] at h; subst h; exact hr
        · rcases List.mem_cons.1 h with rfl | h
          · exact hr
          · exact ih _ _ h
    · simp at h
theorem lineP_mem {fs : List Face} {a x : Int} (h : x ∈ lineP fs a) : 0 ≤ x ∧ x < fs.length := lineF_mem fs _ _ _ h
def isP (fs : List Face) (i j : Int) : Bool := decide (j ∈ lineP fs i)
def commonP (fs : List Face) (i j : Int) : Option Int := (lineP fs i).find? (isP fs j)
theorem find_pre {α : Type} {p : α → Bool} {pre rest : List α} {x : α} (h : ∀ a ∈ pre, p a = false) (hx : p x = true) : (pre ++ x :: rest).find? p = some x := by
  rw [List.find?_append, List.find?_eq_none.2 (fun a ha => by simp [h a ha])]; simp [hx]
theorem find_no {α : Type} {p : α → Bool} {l : List α} (h : ∀ a ∈ l, p a = false) : l.find? p = none := List.find?_eq_none.2 (fun a ha => by simp [h a ha])
theorem find_at {α : Type} {p : α → Bool} {l : List α} {g : Nat} {x : α} (h : ∀ (k : Nat) y, k < g → l[k]? = some y → p y = false) (hx : l[g]? = some x) (hp : p x = true) : l.find? p = some x := by
  obtain ⟨hg, e⟩ := List.getElem?_eq_some_iff.1 hx
  have : l = l.take g ++ x :: l.drop (g + 1) := by rw [← e]; simp
  rw [this]
  refine find_pre (fun a ha => ?_) hp
  obtain ⟨k, hk⟩ := List.getElem?_of_mem ha
  rw [List.getElem?_take] at hk
  split at hk
  · exact h k a (by assumption) hk
  · cases hk
theorem find_no_at {α : Type} {p : α → Bool} {l : List α} (h : ∀ (k : Nat) y, l[k]? = some y → p y = false) : l.find? p = none :=
  find_no (fun a ha => let ⟨k, hk⟩ := List.getElem?_of_mem ha; h k a hk)
theorem step_at {α : Type} {P : α → Prop} {l : List α} {g : Nat} {x : α} (h : ∀ (k : Nat) y, k < g → l[k]? = some y → P y) (hx : l[g]? = some x) (hp : P x) : ∀ (k : Nat) y, k < g + 1 → l[k]? = some y → P y := by
  intro k y hk hy
  rcases Nat.lt_succ_iff_lt_or_eq.1 hk with h1 | rfl
  · exact h k y h1 hy
  · rw [hx] at hy; exact Option.some.inj hy ▸ hp
/-- A row of one's own that holds these numbers. -/
def IRow (v : Value) (xs : List Int) (L : List Ent) : Prop := ∃ A cp, v = .slice A xs.length cp ∧ Row 3 1 (.slice A xs.length cp) (ints xs) L
theorem el_int : ElT Try.prog 3 1 8 [.int .i64 0] := ElT.mk' (by kernel_rfl) zt3 rfl rfl
theorem IRow.nil : IRow (.slice none 0 0) [] [] := ⟨none, 0, rfl, Row.nil⟩
theorem IRow.mk {A : Option Addr} {n cp : Nat} {xs : List Int} {L : List Ent} (h : Row 3 1 (.slice A n cp) (ints xs) L) (hn : n = xs.length) : IRow (.slice A n cp) xs L := by subst hn; exact ⟨A, cp, rfl, h⟩
theorem Row.irow {A : Option Addr} {n cp : Nat} {xs : List Int} {L : List Ent} {x : Int} (h : Row 3 1 (.slice A n cp) (ints xs ++ [.int .i64 x]) L) : Row 3 1 (.slice A n cp) (ints (xs ++ [x])) L := by rw [ints_append]; exact h
theorem IRow.app {A : Option Addr} {cp : Nat} {xs : List Int} {x : Int} {L : List Ent} (h : Row 3 1 (.slice A (xs ++ [x]).length cp) (ints xs ++ [.int .i64 x]) L) : IRow (.slice A (xs ++ [x]).length cp) (xs ++ [x]) L := ⟨A, cp, rfl, h.irow⟩
theorem ints_app_get {xs : List Int} {junk : List Value} {i : Nat} {x : Int} (h : xs[i]? = some x) : (ints xs ++ junk)[0 + i * 1]? = some (.int .i64 x) := by
  have h2 : i < xs.length := (List.getElem?_eq_some_iff.1 h).1
  rw [Nat.zero_add, Nat.mul_one, List.getElem?_append_left (by rw [ints_length]; exact h2)]
  exact ints_get h
def threeF : List Face := [⟨[0, 0, 0, 0, 0, 0, 0, 0, 0, 0, 0, 0, 0, 0, 0, 0], -1⟩, ⟨[1, 0, 0, 0, 0, 0, 0, 0, 0, 0, 0, 0, 0, 0, 0, 0], 0⟩, ⟨[2, 0, 0, 0, 0, 0, 0, 0, 0, 0, 0, 0, 0, 0, 0, 0], 1⟩]
theorem threeF_ok : ∀ f ∈ threeF, FaceOk f := by simp [threeF, FaceOk]
theorem threeF_check : checkP threeF = 0 := by decide
theorem threeF_common : commonP threeF 1 2 = some 1 := by decide
theorem threeF_line : lineP threeF 2 = [2, 1, 0] := by decide
theorem fc_st {w0 w : World} {S : List Nat} {L : List Ent} {bb oo : Nat} {fs : List Face} (hst : St w0 S w L) (hc : CellsAt w0 bb oo (fcells fs)) (hS : 0 < fs.length → bb ∉ S) : CellsAt w bb oo (fcells fs) := by
  cases fs with
  | nil => intro j v hv; simp [fcells] at hv
  | cons f fs => exact hst.cellsI hc (hS (by simp))
theorem lineP_pre {fs : List Face} {a x : Int} {pre rest : List Int} (h : lineP fs a = pre ++ x :: rest) : pre.length < fs.length := by
  have := lineP_len fs a
  rw [h] at this; simp at this; omega
theorem nd2 {a b : Ent} {L : List Ent} (h : (keys (a :: L)).Nodup) (hb : b ∈ L) : a.1 ≠ b.1 := by
  intro e
  rw [keys, List.map_cons, List.nodup_cons] at h
  exact h.1 (e ▸ List.mem_map.2 ⟨b, hb, rfl⟩)
def avF (fs : List Face) (d2 d1 bb : Nat) : List Nat := if 0 < fs.length then [d2, d1, bb] else [d2, d1]
theorem avF2 {fs : List Face} {d2 d1 bb : Nat} : d2 ∈ avF fs d2 d1 bb := by unfold avF; split <;> simp
theorem avF1 {fs : List Face} {d2 d1 bb : Nat} : d1 ∈ avF fs d2 d1 bb := by unfold avF; split <;> simp
theorem avFb {fs : List Face} {d2 d1 bb : Nat} (h : 0 < fs.length) : bb ∈ avF fs d2 d1 bb := by unfold avF; rw [if_pos h]; simp
theorem avF_all {fs : List Face} {d2 d1 bb : Nat} {p : Nat → Prop} (h2 : p d2) (h1 : p d1) (hb : 0 < fs.length → p bb) : ∀ k ∈ avF fs d2 d1 bb, p k := by
  intro k hk
  unfold avF at hk
  split at hk
  · simp at hk; rcases hk with rfl | rfl | rfl
    · exact h2
    · exact h1
    · exact hb (by assumption)
  · simp at hk; rcases hk with rfl | rfl
    · exact h2
    · exact h1
theorem St.not_left {w0 w : World} {S : List Nat} {L1 L2 : List Ent} {p : Ent} (h : St w0 S w (L1 ++ L2)) (hp : p ∈ L2) : p.1 ∉ keys L1 := by
  intro hm
  have := h.nodup
  rw [List.map_append, List.nodup_append] at this
  exact this.2.2 _ hm _ (List.mem_map.2 ⟨p, hp, rfl⟩) rfl
theorem St.cellB {w0 w : World} {S : List Nat} {L : List Ent} {b : Nat} {t : TypeId} {v : Value} (h : St w0 S w L) (hm : (b, cel t [v]) ∈ L) : w.cell? ⟨b, 0, none⟩ = some v := by rw [h.cellO hm]; rfl
/-- What 'line' holds so far; how its loop is left. -/
def lnI (k7 m : Nat) (pre : List Int) (L : List Ent) : Prop := ∃ A cp Lr, Row 3 1 (.slice A pre.length cp) (ints pre) Lr ∧ pre.length ≤ m ∧ L = Lr ++ [(k7, cel 32 [.slice A pre.length cp])]
def lnX (k7 m : Nat) (e : Exit) (pre : List Int) (L : List Ent) : Prop := e = .exit 0 ∧ ∃ p x, pre = p ++ [x] ∧ lnI k7 m p L ∧ p.length = m
def SRow (v : Value) (xs : List Int) (L : List Ent) : Prop := ∃ L1, L1.Sublist L ∧ IRow v xs L1
theorem St.ge {w0 w : World} {L : List Ent} {p : Ent} (h : St w0 [] w L) (hp : p ∈ L) : w0.heap.size ≤ p.1 := (h.free p hp).elim (fun h => by simp at h) id
def isI (k6 : Nat) (j : Int) (pre : List Int) (L : List Ent) : Prop := L = [(k6, cel 4 [.bool false])] ∧ ∀ y ∈ pre, y ≠ j
def isX (k6 : Nat) (j : Int) (e : Exit) (pre : List Int) (L : List Ent) : Prop := e = .ret ∧ j ∈ pre ∧ L = [(k6, cel 4 [.bool true])]
def coI (fs : List Face) (j : Int) (k8 : Nat) (pre : List Int) (L : List Ent) : Prop := L = [(k8, cel 3 [.int .i64 (-1)])] ∧ ∀ y ∈ pre, isP fs j y = false
def coX (fs : List Face) (j : Int) (k8 : Nat) (e : Exit) (pre : List Int) (L : List Ent) : Prop := e = .exit 0 ∧ ∃ p x, pre = p ++ [x] ∧ (∀ y ∈ p, isP fs j y = false) ∧ isP fs j x = true ∧ L = [(k8, cel 3 [.int .i64 x])]
def ciI (x : Int) (k8 : Nat) (pre : List Int) (L : List Ent) : Prop := L = [(k8, cel 3 [.int .i64 (-1)])] ∧ ∀ y ∈ pre, y ≠ x
def ciX (x : Int) (k8 : Nat) (e : Exit) (pre : List Int) (L : List Ent) : Prop := e = .exit 0 ∧ x ∈ pre ∧ L = [(k8, cel 3 [.int .i64 x])]
theorem isP_false {fs : List Face} {i j : Int} (h : ∀ y ∈ lineP fs i, y ≠ j) : isP fs i j = false := by
  unfold isP; rw [decide_eq_false]; exact fun hm => h j hm rfl
theorem isP_true {fs : List Face} {i j : Int} (h : j ∈ lineP fs i) : isP fs i j = true := by unfold isP; rw [decide_eq_true h]
theorem mem_pre {α : Type} {x : α} {F pre rest : List α} (h : F = pre ++ x :: rest) : x ∈ F := by rw [h]; simp
theorem all_snoc {α : Type} {p : α → Prop} {l : List α} {x : α} (h : ∀ y ∈ l, p y) (hx : p x) : ∀ y ∈ l ++ [x], p y := by
  intro y hy
  rcases List.mem_append.1 hy with hy | hy
  · exact h y hy
  · rw [List.mem_singleton] at hy; exact hy ▸ hx
theorem mem_of_snoc {α : Type} {x y : α} {F pre rest : List α} (h : F = pre ++ x :: rest) (hy : y ∈ pre ++ [x]) : y ∈ F := by
  rw [h]; simp at hy ⊢; rcases hy with hy | hy
  · exact .inl hy
  · exact .inr (.inl hy)
end Go.Proofs.Ytjaibkfmkhfjfaa
