/- The form of a module, in plain Lean. -/
import Derived.Test.YtnebpklmbefmfaaBytes
set_option linter.unusedVariables false
set_option linter.unusedSimpArgs false
namespace Go.Proofs.Ytnebpklmbefmfaa
open Go.RowKit
def u8 (n : Int) : Int := IntKind.u8.wrap n
theorem u8_eq (n : Int) : u8 n = n % 256 := by simp [u8, IntKind.wrap, IntKind.signed, IntKind.bits]
theorem u32_eq (n : Int) : IntKind.u32.wrap n = n % 4294967296 := by simp [IntKind.wrap, IntKind.signed, IntKind.bits]
theorem u64_eq (n : Int) : IntKind.u64.wrap n = n % 18446744073709551616 := by simp [IntKind.wrap, IntKind.signed, IntKind.bits]
def byteN (x : Int) (i : Nat) : Int := (x / 2 ^ (8 * i)) % 256
def numX (x : Int) : Nat → List Int
  | 0 => []
  | n + 1 => numX x n ++ [byteN x n]
theorem numX_len (a : Int) : ∀ n, (numX a n).length = n
  | 0 => rfl
  | n + 1 => by simp [numX, numX_len a n]
def encI (x : Ins) : List Int := [u8 x.op, u8 x.b] ++ numX (IntKind.u32.wrap x.a) 4
def encM (l : List Ins) : List Int := u8 l.length :: (l.map encI).flatten
def encF (f : Face) : List Int := f.id ++ [u8 (f.base + 1)]
def encC (c : Cl) : List Int := c.id ++ (u8 c.faces.length :: ((c.faces.map encF).flatten ++ ([u8 c.slots, u8 c.methods.length] ++ (c.methods.map encM).flatten)))
def encP (m : List Cl) : List Int := u8 m.length :: (m.map encC).flatten
theorem flat_take {α : Type} {f : α → List Int} {l : List α} {g : Nat} {x : α} (h : l[g]? = some x) : ((l.take (g + 1)).map f).flatten = ((l.take g).map f).flatten ++ f x := by
  obtain ⟨hg, e⟩ := List.getElem?_eq_some_iff.1 h
  rw [List.take_succ_eq_append_getElem hg, e]; simp
theorem byte_shr {x : Int} (hx : 0 ≤ x) (i : Nat) : u8 (x.fdiv (2 ^ (8 * i))) = byteN x i := by
  rw [u8_eq, byteN, Int.fdiv_eq_ediv_of_nonneg _ (by exact Int.le_of_lt (Int.pow_pos (by decide)))]
theorem num_rem {x : Int} (hx : 0 ≤ x) (i : Nat) : (x / 2 ^ (8 * i)).tmod 256 = (x / 2 ^ (8 * i)) % 256 := Int.tmod_eq_emod_of_nonneg (Int.ediv_nonneg hx (Int.le_of_lt (Int.pow_pos (by decide))))
theorem num_byte (x : Int) (i : Nat) : IntKind.u8.wrap ((x / 2 ^ (8 * i)) % 256) = byteN x i := by
  have := u8_eq ((x / 2 ^ (8 * i)) % 256)
  unfold u8 at this
  rw [this, byteN, Int.emod_emod]
theorem num_quo {x : Int} (hx : 0 ≤ x) (h2 : x < 4294967296) (i : Nat) : IntKind.u64.wrap ((x / 2 ^ (8 * i)).tdiv 256) = x / 2 ^ (8 * (i + 1)) := by
  have h0 : 0 ≤ x / 2 ^ (8 * i) := Int.ediv_nonneg hx (Int.le_of_lt (Int.pow_pos (by decide)))
  have h1 : x / 2 ^ (8 * i) ≤ x := Int.ediv_le_self _ hx
  rw [Int.tdiv_eq_ediv_of_nonneg h0, u64_eq]
  have e : (2 : Int) ^ (8 * (i + 1)) = 2 ^ (8 * i) * 256 := by rw [show 8 * (i + 1) = 8 * i + 8 by omega, Int.pow_add]; rfl
  rw [e, ← Int.ediv_ediv_of_nonneg (Int.le_of_lt (Int.pow_pos (by decide)))]
  omega
theorem u32_lt (a : Int) : IntKind.u32.wrap a < 4294967296 := by rw [u32_eq]; omega
theorem u32_64 (a : Int) : IntKind.u64.wrap (IntKind.u32.wrap a) = IntKind.u32.wrap a := by rw [u64_eq, u32_eq]; omega
theorem own_id {w0 w : World} {S : List Nat} {L : List Ent} {b t : Nat} {id : List Int} {vf vm : Value} {s : Int} (hid : id.length = 16) (hst : St w0 S w L) (hm : (b, cel t (clCells id vf s vm)) ∈ L) : CellsAt w b 0 (gcells id) := by
  have := hst.cellsO (b := b) (t := t) (l := clCells id vf s vm) (fr := (0, 0)) hm 0
  have h2 := this.sub 0 16
  rw [List.drop_zero, clCells_id hid] at h2
  simpa using h2
theorem own_fid {w0 w : World} {S : List Nat} {L : List Ent} {b t : Nat} {f : Face} (hf : FaceOk f) (hst : St w0 S w L) (hm : (b, cel t f.cells) ∈ L) : CellsAt w b 0 (gcells f.id) := by
  have := hst.cellsO (b := b) (t := t) (l := f.cells) (fr := (0, 0)) hm 0
  have h2 := this.sub 0 16
  rw [List.drop_zero, Face.idcells hf] at h2
  simpa using h2
theorem u32_nonneg (a : Int) : 0 ≤ IntKind.u32.wrap a := by rw [u32_eq]; omega
/-- What is right, laid open. -/
structure ClV (c : Cl) : Prop where
  nf : 1 ≤ c.faces.length ∧ c.faces.length ≤ 16
  base : ∀ f ∈ c.faces, -1 ≤ f.base ∧ f.base < 16
  slots : 0 ≤ c.slots ∧ c.slots ≤ 8
  nm : 1 ≤ c.methods.length ∧ c.methods.length ≤ 8
  rows : ∀ l ∈ c.methods, Valid l c.slots
theorem fcheck_base {fs : List Face} (h : fcheckP fs = 0) : (1 ≤ fs.length ∧ fs.length ≤ 16) ∧ ∀ f ∈ fs, -1 ≤ f.base ∧ f.base < 16 := by
  have hl : ¬ (fs.length < 1 ∨ 16 < fs.length) := fun h2 => by rw [fcheckP_len h2] at h; cases h
  refine ⟨by omega, fun f hf => ?_⟩
  obtain ⟨i, hi⟩ := List.getElem?_of_mem hf
  have hlt := (List.getElem?_eq_some_iff.1 hi).1
  have hno : fverI fs i = none := by
    cases hv : fverI fs i with
    | none => rfl
    | some e =>
      exfalso
      unfold fcheckP at h
      rw [if_neg hl] at h
      cases hs : (List.range fs.length).findSome? (fverI fs) with
      | none =>
        rw [List.findSome?_eq_none_iff] at hs
        rw [hs i (by simpa using hlt)] at hv; cases hv
      | some e2 =>
        rw [hs] at h
        obtain ⟨j, hj, hj2⟩ := List.exists_of_findSome?_eq_some hs
        have : e2 = 0 := h
        subst this
        unfold fverI at hj2
        cases hj3 : fs[j]? with
        | none => rw [hj3] at hj2; cases hj2
        | some g =>
          rw [hj3] at hj2
          simp only [Option.bind_some, verF] at hj2
          split at hj2
          · cases hj2
          · split at hj2 <;> cases hj2
  unfold fverI at hno
  rw [hi] at hno
  simp only [Option.bind_some, verF] at hno
  split at hno
  · cases hno
  · rename_i hb
    unfold badBase at hb
    omega
theorem ccheck_v {c : Cl} (h : ccheckP c = 0) : ClV c := by
  by_cases h1 : fcheckP c.faces ≠ 0
  · rw [ccheckP_f h1] at h; exact absurd h h1
  · by_cases h2 : c.slots < 0 ∨ 8 < c.slots
    · rw [ccheckP_s h1 h2] at h; cases h
    · by_cases h3 : c.methods.length < 1 ∨ 8 < c.methods.length
      · rw [ccheckP_n h1 h2 h3] at h; cases h
      · rw [ccheckP_m h1 h2 h3] at h
        obtain ⟨b1, b2⟩ := fcheck_base (Decidable.not_not.1 h1)
        refine ⟨b1, b2, by omega, by omega, fun l hl => valid_iff.1 ?_⟩
        apply Decidable.byContradiction
        intro hne
        unfold msP at h
        cases hs : (c.methods.map (fun l => (heightP l c.slots).2.2)).find? (fun e => decide (e ≠ 0)) with
        | none =>
          rw [List.find?_eq_none] at hs
          have := hs _ (List.mem_map.2 ⟨l, hl, rfl⟩)
          simp at this; exact hne this
        | some e =>
          rw [hs] at h
          have h5 := List.find?_some hs
          have : e = 0 := h
          simp at h5; exact h5 this
theorem mcheck_v {m : List Cl} (h : (mcheckP m).2 = 0) : (1 ≤ m.length ∧ m.length ≤ 8) ∧ ∀ c ∈ m, ClV c := by
  have hl : ¬ (m.length < 1 ∨ 8 < m.length) := fun h2 => by rw [mcheckP_len h2] at h; cases h
  refine ⟨by omega, fun c hc => ?_⟩
  obtain ⟨i, hi⟩ := List.getElem?_of_mem hc
  have hlt := (List.getElem?_eq_some_iff.1 hi).1
  refine ccheck_v ?_
  apply Decidable.byContradiction
  intro hne
  have hv : (m[i]?).bind (verC m i) = some ((i : Int), ccheckP c) := by rw [hi]; exact verC_c hne
  unfold mcheckP at h
  rw [if_neg hl] at h
  cases hs : (List.range m.length).findSome? (fun i => (m[i]?).bind (verC m i)) with
  | none =>
    rw [List.findSome?_eq_none_iff] at hs
    rw [hs i (by simpa using hlt)] at hv; cases hv
  | some e2 =>
    rw [hs] at h
    obtain ⟨j, hj, hj2⟩ := List.exists_of_findSome?_eq_some hs
    have h0 : e2.2 = 0 := h
    cases hj3 : m[j]? with
    | none => rw [hj3] at hj2; cases hj2
    | some g =>
      rw [hj3] at hj2
      simp only [Option.bind_some, verC] at hj2
      split at hj2
      · rename_i h6
        injection hj2 with hj2; subst hj2; exact h6 h0
      · split at hj2
        · injection hj2 with hj2; subst hj2; cases h0
        · cases hj2
theorem ClV.l32 {c : Cl} (h : ClV c) {l : List Ins} (hl : l ∈ c.methods) : 1 ≤ l.length ∧ l.length ≤ 32 := by
  have := (h.rows l hl).len; omega
end Go.Proofs.Ytnebpklmbefmfaa
