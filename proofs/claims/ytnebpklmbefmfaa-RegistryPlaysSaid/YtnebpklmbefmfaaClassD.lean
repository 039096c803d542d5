/- Classes and modules as data; what they lie in; judged and found, in plain Lean. -/
import Derived.Test.YtnebpklmbefmfaaCodeL
import Derived.Test.YtnebpklmbefmfaaFaceD
set_option linter.unusedVariables false
set_option linter.unusedSimpArgs false
namespace Go.Proofs.Ytnebpklmbefmfaa
open Go.RowKit
structure Cl where
  id : List Int
  faces : List Face
  slots : Int
  methods : List (List Ins)
  deriving DecidableEq
/-- A row of slices that read as these rows of instructions. -/
def MsR (w : World) (ls : List (List Ins)) (ms : List Value) : Prop := ms.length = ls.length ∧ ∀ (i : Nat) l, ls[i]? = some l → ∃ A c, ms[i]? = some (.slice A l.length c) ∧ Rd w A (icells l)
def clCells (id : List Int) (vf : Value) (slots : Int) (vm : Value) : List Value := gcells id ++ [vf, .int .i64 slots, vm]
theorem clCells_len {id : List Int} {vf vm : Value} {s : Int} (h : id.length = 16) : (clCells id vf s vm).length = 19 := by simp [clCells, gcells_length h]
theorem clCells_id {id : List Int} {vf vm : Value} {s : Int} (h : id.length = 16) : ((clCells id vf s vm).drop 0).take 16 = gcells id := by
  rw [List.drop_zero]; unfold clCells; rw [List.take_append_of_le_length (by rw [gcells_length h]; omega), List.take_of_length_le (by rw [gcells_length h]; omega)]
theorem clCells_at {id : List Int} {vf vm : Value} {s : Int} (h : id.length = 16) : (clCells id vf s vm)[16]? = some vf ∧ (clCells id vf s vm)[17]? = some (.int .i64 s) ∧ (clCells id vf s vm)[18]? = some vm := by
  unfold clCells
  refine ⟨?_, ?_, ?_⟩ <;> rw [List.getElem?_append_right (by rw [gcells_length h]; omega), gcells_length h] <;> rfl
theorem clCells_f {id : List Int} {vf vm : Value} {s : Int} (h : id.length = 16) : (clCells id vf s vm)[0 + 16]? = some vf := (clCells_at h).1
theorem clCells_s {id : List Int} {vf vm : Value} {s : Int} (h : id.length = 16) : (clCells id vf s vm)[0 + 17]? = some (.int .i64 s) := (clCells_at h).2.1
theorem clCells_m {id : List Int} {vf vm : Value} {s : Int} (h : id.length = 16) : (clCells id vf s vm)[0 + 18]? = some vm := (clCells_at h).2.2
theorem clCells_one {id : List Int} {A B : Option Addr} {a b c d : Nat} {s : Int} : ∀ u ∈ clCells id (.slice A a b) s (.slice B c d), u.oneCell' = true := by
  intro u hu
  simp only [clCells, List.mem_append, List.mem_cons, List.not_mem_nil, or_false, gcells, List.mem_map] at hu
  rcases hu with ⟨x, _, rfl⟩ | rfl | rfl | rfl <;> rfl
structure ClR (w : World) (cl : Cl) (cs : List Value) : Prop where
  id : cl.id.length = 16
  ok : ∀ f ∈ cl.faces, FaceOk f
  out : ∃ Af cf Am cm ms, cs = clCells cl.id (.slice Af cl.faces.length cf) cl.slots (.slice Am cl.methods.length cm) ∧ Rd w Af (fcells cl.faces) ∧ Rd w Am ms ∧ MsR w cl.methods ms
theorem ClR.len {w : World} {cl : Cl} {cs : List Value} (h : ClR w cl cs) : cs.length = 19 := by
  obtain ⟨_, _, _, _, _, rfl, _⟩ := h.out
  exact clCells_len h.id
theorem ClR.one {w : World} {cl : Cl} {cs : List Value} (h : ClR w cl cs) : ∀ u ∈ cs, u.oneCell' = true := by
  obtain ⟨_, _, _, _, _, rfl, _⟩ := h.out
  exact clCells_one
theorem MsR.st0 {w0 w : World} {L : List Ent} {ls : List (List Ins)} {ms : List Value} (h : MsR w0 ls ms) (hst : St w0 [] w L) : MsR w ls ms :=
  ⟨h.1, fun i l hl => let ⟨A, c, h1, h2⟩ := h.2 i l hl; ⟨A, c, h1, h2.st0 hst⟩⟩
theorem ClR.st0 {w0 w : World} {L : List Ent} {cl : Cl} {cs : List Value} (h : ClR w0 cl cs) (hst : St w0 [] w L) : ClR w cl cs :=
  ⟨h.id, h.ok, let ⟨Af, cf, Am, cm, ms, h1, h2, h3, h4⟩ := h.out; ⟨Af, cf, Am, cm, ms, h1, h2.st0 hst, h3.st0 hst, h4.st0 hst⟩⟩
/-- A slice that reads as these classes. -/
def ModR (w : World) (m : List Cl) (A : Option Addr) : Prop := ∃ css : List (List Value), css.length = m.length ∧ Rd w A css.flatten ∧ ∀ (i : Nat) cl, m[i]? = some cl → ∃ cs, css[i]? = some cs ∧ ClR w cl cs
theorem ModR.st0 {w0 w : World} {L : List Ent} {m : List Cl} {A : Option Addr} (h : ModR w0 m A) (hst : St w0 [] w L) : ModR w m A :=
  let ⟨css, h1, h2, h3⟩ := h; ⟨css, h1, h2.st0 hst, fun i cl hi => let ⟨cs, h4, h5⟩ := h3 i cl hi; ⟨cs, h4, h5.st0 hst⟩⟩
theorem flat_len19 {css : List (List Value)} (h : ∀ cs ∈ css, cs.length = 19) : css.flatten.length = css.length * 19 := by
  induction css with
  | nil => simp
  | cons c css ih => rw [List.flatten_cons, List.length_append, h c (by simp), ih (fun cs hcs => h cs (by simp [hcs])), List.length_cons]; omega
theorem ModR.open {w : World} {m : List Cl} {A : Option Addr} (h : ModR w m A) : ∃ bb oo, (0 < m.length → A = some ⟨bb, oo, none⟩) ∧ ∀ (i : Nat) cl, m[i]? = some cl → ∃ cs, CellsAt w bb (oo + i * 19) cs ∧ ClR w cl cs := by
  obtain ⟨css, h1, ⟨bb, oo, h2, h3⟩, h4⟩ := h
  have h19 : ∀ cs ∈ css, cs.length = 19 := by
    intro cs hcs
    obtain ⟨i, hi⟩ := List.getElem?_of_mem hcs
    have hlt := (List.getElem?_eq_some_iff.1 hi).1
    obtain ⟨cs2, h5, h6⟩ := h4 i _ (List.getElem?_eq_getElem (by omega))
    rw [hi] at h5; cases h5; exact h6.len
  refine ⟨bb, oo, fun h0 => h2 (by rw [flat_len19 h19]; omega), fun i cl hi => ?_⟩
  obtain ⟨cs, h5, h6⟩ := h4 i cl hi
  exact ⟨cs, cells_row h3 h19 h5, h6⟩
/-! Judged, found. -/
def msP (ls : List (List Ins)) (s : Int) : Int := ((ls.map (fun l => (heightP l s).2.2)).find? (fun e => decide (e ≠ 0))).getD 0
def ccheckP (c : Cl) : Int :=
  if fcheckP c.faces ≠ 0 then fcheckP c.faces else if c.slots < 0 ∨ 8 < c.slots then 1 else if c.methods.length < 1 ∨ 8 < c.methods.length then 20 else msP c.methods c.slots
def mfindP (m : List Cl) (id : List Int) : Option Nat := m.findIdx? (fun c => c.id == id)
def verC (m : List Cl) (i : Nat) (c : Cl) : Option (Int × Int) := if ccheckP c ≠ 0 then some ((i : Int), ccheckP c) else if (mfindP m c.id).getD 0 < i then some ((i : Int), 13) else none
def mcheckP (m : List Cl) : Int × Int := if m.length < 1 ∨ 8 < m.length then (0, 20) else ((List.range m.length).findSome? (fun i => (m[i]?).bind (verC m i))).getD (0, 0)
theorem msP_hit {ls : List (List Ins)} {s : Int} {g : Nat} {l : List Ins} (hno : ∀ (j : Nat) l, j < g → ls[j]? = some l → (heightP l s).2.2 = 0) (hl : ls[g]? = some l) (he : (heightP l s).2.2 ≠ 0) : msP ls s = (heightP l s).2.2 := by
  unfold msP
  rw [find_at (g := g) (x := (heightP l s).2.2) (fun k y hk hy => ?_) (by rw [List.getElem?_map, hl]; rfl) (by simpa using he)]
  · rfl
  · rw [List.getElem?_map] at hy
    cases hk2 : ls[k]? with
    | none => rw [hk2] at hy; cases hy
    | some l2 =>
      rw [hk2] at hy
      injection hy with hy
      rw [← hy]
      show decide ((heightP l2 s).2.2 ≠ 0) = false
      rw [hno k l2 hk hk2]; rfl
theorem msP_ok {ls : List (List Ins)} {s : Int} (hno : ∀ (j : Nat) l, ls[j]? = some l → (heightP l s).2.2 = 0) : msP ls s = 0 := by
  unfold msP
  rw [find_no (fun a ha => ?_)]
  · rfl
  · obtain ⟨l, hl, rfl⟩ := List.mem_map.1 ha
    obtain ⟨i, hi⟩ := List.getElem?_of_mem hl
    rw [hno i l hi]; rfl
theorem ccheckP_f {c : Cl} (h : fcheckP c.faces ≠ 0) : ccheckP c = fcheckP c.faces := if_pos h
theorem ccheckP_s {c : Cl} (h : ¬ fcheckP c.faces ≠ 0) (h2 : c.slots < 0 ∨ 8 < c.slots) : ccheckP c = 1 := by unfold ccheckP; rw [if_neg h, if_pos h2]
theorem ccheckP_n {c : Cl} (h : ¬ fcheckP c.faces ≠ 0) (h2 : ¬ (c.slots < 0 ∨ 8 < c.slots)) (h3 : c.methods.length < 1 ∨ 8 < c.methods.length) : ccheckP c = 20 := by unfold ccheckP; rw [if_neg h, if_neg h2, if_pos h3]
theorem ccheckP_m {c : Cl} (h : ¬ fcheckP c.faces ≠ 0) (h2 : ¬ (c.slots < 0 ∨ 8 < c.slots)) (h3 : ¬ (c.methods.length < 1 ∨ 8 < c.methods.length)) : ccheckP c = msP c.methods c.slots := by unfold ccheckP; rw [if_neg h, if_neg h2, if_neg h3]
theorem mfindP_some {m : List Cl} {id : List Int} {g : Nat} {c : Cl} (hc : m[g]? = some c) (he : c.id = id) (hno : ∀ (j : Nat) c, j < g → m[j]? = some c → c.id ≠ id) : mfindP m id = some g := by
  obtain ⟨hg, e⟩ := List.getElem?_eq_some_iff.1 hc
  unfold mfindP
  rw [List.findIdx?_eq_some_iff_getElem]
  exact ⟨hg, by rw [e]; simpa using he, fun j hj => by simpa using hno j _ hj (List.getElem?_eq_getElem (by omega))⟩
theorem mfindP_none {m : List Cl} {id : List Int} (hno : ∀ (j : Nat) c, m[j]? = some c → c.id ≠ id) : mfindP m id = none := by
  unfold mfindP
  rw [List.findIdx?_eq_none_iff]
  intro c hc
  obtain ⟨j, hj⟩ := List.getElem?_of_mem hc
  simpa using hno j c hj
theorem mfindP_self {m : List Cl} {g : Nat} {c : Cl} (hc : m[g]? = some c) : ∃ k, mfindP m c.id = some k ∧ k ≤ g := by
  cases h : mfindP m c.id with
  | none =>
    unfold mfindP at h
    rw [List.findIdx?_eq_none_iff] at h
    have := h c (List.mem_of_getElem? hc)
    simp at this
  | some k =>
    refine ⟨k, rfl, ?_⟩
    unfold mfindP at h
    obtain ⟨hk, h1, h2⟩ := List.findIdx?_eq_some_iff_getElem.1 h
    apply Nat.le_of_not_lt
    intro hlt
    obtain ⟨hg, e⟩ := List.getElem?_eq_some_iff.1 hc
    have := h2 g hlt
    rw [e] at this; simp at this
theorem mcheckP_len {m : List Cl} (h : m.length < 1 ∨ 8 < m.length) : mcheckP m = (0, 20) := if_pos h
theorem fsome_hit {α : Type} {p : Nat → Option α} {n g : Nat} {e : α} (hg : g < n) (hno : ∀ j, j < g → p j = none) (he : p g = some e) : (List.range n).findSome? p = some e := findSome_hit hg hno he
theorem mcheckP_hit {m : List Cl} (hl : ¬ (m.length < 1 ∨ 8 < m.length)) {g : Nat} {c : Cl} {e : Int × Int} (hc : m[g]? = some c) (hno : ∀ (j : Nat) c, j < g → m[j]? = some c → verC m j c = none) (he : verC m g c = some e) : mcheckP m = e := by
  unfold mcheckP
  rw [if_neg hl, fsome_hit (g := g) (List.getElem?_eq_some_iff.1 hc).1 (fun j hj => ?_) (by rw [hc]; exact he)]
  · rfl
  · cases h : m[j]? with
    | none => rfl
    | some c2 => exact hno j c2 hj h
theorem mcheckP_ok {m : List Cl} (hl : ¬ (m.length < 1 ∨ 8 < m.length)) (hno : ∀ (j : Nat) c, m[j]? = some c → verC m j c = none) : mcheckP m = (0, 0) := by
  unfold mcheckP
  rw [if_neg hl, List.findSome?_eq_none_iff.2]
  · rfl
  · intro j _
    cases h : m[j]? with
    | none => rfl
    | some c2 => exact hno j c2 h
theorem verC_c {m : List Cl} {i : Nat} {c : Cl} (h : ccheckP c ≠ 0) : verC m i c = some ((i : Int), ccheckP c) := if_pos h
theorem verC_t {m : List Cl} {i : Nat} {c : Cl} (h : ¬ ccheckP c ≠ 0) (h2 : (mfindP m c.id).getD 0 < i) : verC m i c = some ((i : Int), 13) := by unfold verC; rw [if_neg h, if_pos h2]
theorem verC_no {m : List Cl} {i : Nat} {c : Cl} (h : ¬ ccheckP c ≠ 0) (h2 : ¬ (mfindP m c.id).getD 0 < i) : verC m i c = none := by unfold verC; rw [if_neg h, if_neg h2]
/-- How much there may be. -/
structure ClSz (c : Cl) : Prop where
  faces : c.faces.length ≤ 1000
  methods : c.methods.length ≤ 1000
  rows : ∀ l ∈ c.methods, l.length ≤ 1000
theorem check_snd {l : List Ins} {s : Int} {v : Value} : (v = .tuple #[.int .i64 (checkP l s).1, .int .i64 (checkP l s).2.1, .int .i64 (checkP l s).2.2]) = (∃ a b, v = .tuple #[.int .i64 a, .int .i64 b, .int .i64 (heightP l s).2.2] ∧ a = (checkP l s).1 ∧ b = (checkP l s).2.1) := by
  have e : (checkP l s).2.2 = (heightP l s).2.2 := by
    by_cases h : (heightP l s).2.2 ≠ 0
    · rw [checkP_err h]
    · rw [checkP_ok h]; exact (Decidable.not_not.1 h).symm
  rw [e]
  apply propext
  exact ⟨fun h => ⟨_, _, h, rfl, rfl⟩, fun ⟨a, b, h, h1, h2⟩ => by rw [h, h1, h2]⟩
theorem cl_id_at {w : World} {b o : Nat} {id : List Int} {vf vm : Value} {s : Int} (hid : id.length = 16) (h : CellsAt w b o (clCells id vf s vm)) : CellsAt w b (o + 0) (gcells id) := by
  have := h.sub 0 16
  rwa [clCells_id hid] at this
end Go.Proofs.Ytnebpklmbefmfaa
