/- Rows of modules, given and kept; what New and Find come to, in plain Lean. -/
import Derived.Test.YtnebpklmbefmfaaReg
import Derived.Test.YtnebpklmbefmfaaBack
set_option linter.unusedVariables false
set_option linter.unusedSimpArgs false
namespace Go.Proofs.Ytnebpklmbefmfaa
open Go.RowKit
theorem mod_ids {w : World} {m : List Cl} {A : Option Addr} (h : ModR w m A) : ∀ c ∈ m, c.id.length = 16 ∧ ∀ f ∈ c.faces, FaceOk f := by
  obtain ⟨css, h1, h2, h3⟩ := h
  intro c hc
  obtain ⟨i, hi⟩ := List.getElem?_of_mem hc
  obtain ⟨cs, h4, h5⟩ := h3 i c hi
  exact ⟨h5.id, h5.ok⟩
/-- How much there may be of modules. -/
def MsSz (ms : List (List Cl)) : Prop := ∀ m ∈ ms, m.length ≤ 1000 ∧ ∀ c ∈ m, ClSz c
def MsB (ms : List (List Cl)) : Prop := ∀ m ∈ ms, ∀ c ∈ m, ClB c
theorem MsSz.get {ms : List (List Cl)} (h : MsSz ms) {i : Nat} {m : List Cl} (hm : ms[i]? = some m) : m.length ≤ 1000 ∧ ∀ c ∈ m, ClSz c := h m (List.mem_of_getElem? hm)
/-- Slices that read as modules. -/
structure StaV (w : World) (vs : List Value) (ms : List (List Cl)) : Prop where
  len : vs.length = ms.length
  get : ∀ (i : Nat) m, ms[i]? = some m → ∃ Am cm, vs[i]? = some (.slice Am m.length cm) ∧ ModR w m Am
theorem StaV.st0 {w0 w : World} {L : List Ent} {vs : List Value} {ms : List (List Cl)} (h : StaV w0 vs ms) (hst : St w0 [] w L) : StaV w vs ms := ⟨h.len, fun i m hm => let ⟨A, c, h1, h2⟩ := h.get i m hm; ⟨A, c, h1, h2.st0 hst⟩⟩
theorem StaV.take {w : World} {vs : List Value} {ms : List (List Cl)} (h : StaV w vs ms) (g : Nat) : StaV w (vs.take g) (ms.take g) :=
  ⟨by rw [List.length_take, List.length_take, h.len], fun i m hm => by
    rw [List.getElem?_take] at hm
    split at hm
    · rename_i hlt
      obtain ⟨A, c, h1, h2⟩ := h.get i m hm
      exact ⟨A, c, by rw [List.getElem?_take, if_pos hlt]; exact h1, h2⟩
    · cases hm⟩
def ModsR (w : World) (ms : List (List Cl)) (A : Option Addr) : Prop := ∃ vs, Rd w A vs ∧ StaV w vs ms
theorem ModsR.st0 {w0 w : World} {L : List Ent} {ms : List (List Cl)} {A : Option Addr} (h : ModsR w0 ms A) (hst : St w0 [] w L) : ModsR w ms A := let ⟨vs, h1, h2⟩ := h; ⟨vs, h1.st0 hst, h2.st0 hst⟩
/-- What a registry's modules read as. -/
structure StaM (w : World) (xs : List Ms) (ms : List (List Cl)) : Prop where
  len : xs.length = ms.length
  get : ∀ (i : Nat) x m, xs[i]? = some x → ms[i]? = some m → ∃ Af cf Am cm, x.vf = .slice Af (encP m).length cf ∧ Rd w Af (gcells (encP m)) ∧ (encP m).length ≤ cf ∧ (encP m).length ≤ 20000 ∧ x.vm = .slice Am m.length cm ∧ ModR w m Am
theorem StaM.st0 {w0 w : World} {L : List Ent} {xs : List Ms} {ms : List (List Cl)} (h : StaM w0 xs ms) (hst : St w0 [] w L) : StaM w xs ms :=
  ⟨h.len, fun i x m hx hm => let ⟨Af, cf, Am, cm, h1, h2, h3, h4, h5, h6⟩ := h.get i x m hx hm; ⟨Af, cf, Am, cm, h1, h2.st0 hst, h3, h4, h5, h6.st0 hst⟩⟩
inductive StaO : List (List Cl) → List Ms → List Ent → Prop
  | nil : StaO [] [] []
  | snoc {ms : List (List Cl)} {xs : List Ms} {L : List Ent} {m : List Cl} {b : Nat} {Af Am : Option Addr} {cf cm : Nat} {Lf Lm : List Ent} (h : StaO ms xs L) (hf : Row 5 1 (.slice Af (encP m).length cf) (gcells (encP m)) Lf) (hn : (encP m).length ≤ 20000) (hm : ModO m Am cm Lm) : StaO (ms ++ [m]) (xs ++ [⟨b, .slice Af (encP m).length cf, .slice Am m.length cm⟩]) (L ++ (Lf ++ Lm))
theorem StaO.len {ms : List (List Cl)} {xs : List Ms} {L : List Ent} (h : StaO ms xs L) : xs.length = ms.length := by
  induction h with
  | nil => rfl
  | snoc h hf hn hm ih => simp [ih]
theorem StaO.reads {w0 w : World} {S : List Nat} {L' : List Ent} (hst : St w0 S w L') {ms : List (List Cl)} {xs : List Ms} {L : List Ent} (h : StaO ms xs L) : (∀ p ∈ L, p ∈ L') → StaM w xs ms := by
  induction h with
  | nil => intro _; exact ⟨rfl, fun i x m hx => by simp at hx⟩
  | snoc h hf hn hm ih =>
    rename_i ms xs L m b Af Am cf cm Lf Lm
    intro hs
    have h1 := ih (fun p hp => hs p (List.mem_append_left _ hp))
    refine ⟨by simp [h.len], fun i x m2 hx hm2 => ?_⟩
    rcases Nat.lt_or_ge i ms.length with hlt | hge
    · rw [List.getElem?_append_left hlt] at hm2
      rw [List.getElem?_append_left (by rw [h.len]; exact hlt)] at hx
      exact h1.get i x m2 hx hm2
    · rw [List.getElem?_append_right hge] at hm2
      have h4 := (List.getElem?_eq_some_iff.1 hm2).1
      simp at h4
      obtain rfl : i = ms.length := by omega
      rw [List.getElem?_append_right (by rw [h.len]; omega), h.len] at hx
      simp at hm2 hx
      subst hm2 hx
      have hr := row_len hf
      rw [gcells_len] at hr
      exact ⟨Af, cf, Am, cm, rfl, row_rd hf hst (fun p hp => hs p (by simp [hp])), hr.2, hn, rfl, hm.reads hst (fun p hp => hs p (by simp [hp]))⟩
/-! found, judged -/
def rfindP (ms : List (List Cl)) (id : List Int) : Option (Nat × Nat) := (List.range ms.length).findSome? fun i => (ms[i]?).bind fun m => (mfindP m id).map fun k => (i, k)
theorem rfindP_some {ms : List (List Cl)} {id : List Int} {g k : Nat} {m : List Cl} (hm : ms[g]? = some m) (hno : ∀ (j : Nat) m, j < g → ms[j]? = some m → mfindP m id = none) (hk : mfindP m id = some k) : rfindP ms id = some (g, k) := by
  unfold rfindP
  refine findSome_hit (List.getElem?_eq_some_iff.1 hm).1 (fun j hj => ?_) (by rw [hm]; simp [hk])
  cases h : ms[j]? with
  | none => rfl
  | some m2 => simp [hno j m2 hj h]
theorem rfindP_none {ms : List (List Cl)} {id : List Int} (hno : ∀ (j : Nat) m, ms[j]? = some m → mfindP m id = none) : rfindP ms id = none := by
  unfold rfindP
  rw [List.findSome?_eq_none_iff]
  intro j _
  cases h : ms[j]? with
  | none => rfl
  | some m2 => simp [hno j m2 h]
def fA (ms : List (List Cl)) (id : List Int) : Int := match rfindP ms id with | some p => (p.1 : Nat) | none => 0
def fB (ms : List (List Cl)) (id : List Int) : Int := match rfindP ms id with | some p => (p.2 : Nat) | none => 0
def fC (ms : List (List Cl)) (id : List Int) : Int := match rfindP ms id with | some _ => 0 | none => 8
def gA (ms : List (List Cl)) (id : List Int) : Int := match rfindP ms id with | some p => (p.1 : Nat) | none => -1
theorem f_tup {ms : List (List Cl)} {id : List Int} {v : Value} (h : v = (match rfindP ms id with | some p => .tuple #[.int .i64 ((p.1 : Nat) : Int), .int .i64 ((p.2 : Nat) : Int), .int .i64 0] | none => .tuple #[.int .i64 0, .int .i64 0, .int .i64 8])) : v = .tuple #[.int .i64 (fA ms id), .int .i64 (fB ms id), .int .i64 (fC ms id)] := by
  rw [h]; unfold fA fB fC; cases rfindP ms id <;> rfl
theorem g_tup {ms : List (List Cl)} {id : List Int} {v : Value} (h : v = (match rfindP ms id with | some p => .tuple #[.int .i64 ((p.1 : Nat) : Int), .int .i64 ((p.2 : Nat) : Int)] | none => .tuple #[.int .i64 (-1), .int .i64 0])) : v = .tuple #[.int .i64 (gA ms id), .int .i64 (fB ms id)] := by
  rw [h]; unfold gA fB; cases rfindP ms id <;> rfl
theorem fg_none {ms : List (List Cl)} {id : List Int} (h : gA ms id < 0) : fA ms id = 0 ∧ fB ms id = 0 ∧ fC ms id = 8 := by
  unfold gA at h; unfold fA fB fC
  cases hf : rfindP ms id with
  | none => exact ⟨rfl, rfl, rfl⟩
  | some p => rw [hf] at h; simp only [] at h; omega
theorem fg_some {ms : List (List Cl)} {id : List Int} (h : ¬ gA ms id < 0) : fA ms id = gA ms id ∧ fC ms id = 0 := by
  unfold gA at h; unfold fA gA fC
  cases hf : rfindP ms id with
  | none => rw [hf] at h; simp only [] at h; omega
  | some p => exact ⟨rfl, rfl⟩
def verM (ms : List (List Cl)) (i : Nat) (m : List Cl) : Option Int := if (mcheckP m).2 ≠ 0 then some (mcheckP m).2 else if m.any (fun c => (rfindP (ms.take i) c.id).isSome) then some 13 else none
def newP (ms : List (List Cl)) (delay : Int) : Int :=
  if delay < 0 ∨ 1000 < delay then 1 else if ms.length < 1 ∨ 4 < ms.length then 20 else ((List.range ms.length).findSome? fun i => (ms[i]?).bind (verM ms i)).getD 0
theorem newP_d {ms : List (List Cl)} {delay : Int} (h : delay < 0 ∨ 1000 < delay) : newP ms delay = 1 := if_pos h
theorem newP_l {ms : List (List Cl)} {delay : Int} (h : ¬ (delay < 0 ∨ 1000 < delay)) (h2 : ms.length < 1 ∨ 4 < ms.length) : newP ms delay = 20 := by unfold newP; rw [if_neg h, if_pos h2]
theorem newP_hit {ms : List (List Cl)} {delay e : Int} {g : Nat} {m : List Cl} (h : ¬ (delay < 0 ∨ 1000 < delay)) (h2 : ¬ (ms.length < 1 ∨ 4 < ms.length)) (hm : ms[g]? = some m) (hno : ∀ (j : Nat) m, j < g → ms[j]? = some m → verM ms j m = none) (he : verM ms g m = some e) : newP ms delay = e := by
  unfold newP
  rw [if_neg h, if_neg h2, findSome_hit (e := e) (List.getElem?_eq_some_iff.1 hm).1 (fun j hj => ?_) (by rw [hm]; simpa using he)]
  · rfl
  · cases hj2 : ms[j]? with
    | none => rfl
    | some m2 => simp [hno j m2 hj hj2]
theorem newP_ok {ms : List (List Cl)} {delay : Int} (h : ¬ (delay < 0 ∨ 1000 < delay)) (h2 : ¬ (ms.length < 1 ∨ 4 < ms.length)) (hno : ∀ (j : Nat) m, ms[j]? = some m → verM ms j m = none) : newP ms delay = 0 := by
  unfold newP
  rw [if_neg h, if_neg h2, List.findSome?_eq_none_iff.2]
  · rfl
  · intro j _
    cases hj2 : ms[j]? with
    | none => rfl
    | some m2 => simp [hno j m2 hj2]
theorem verM_c {ms : List (List Cl)} {i : Nat} {m : List Cl} (h : (mcheckP m).2 ≠ 0) : verM ms i m = some (mcheckP m).2 := if_pos h
theorem verM_t {ms : List (List Cl)} {i : Nat} {m : List Cl} {k : Nat} {c : Cl} {p : Nat × Nat} (h : (mcheckP m).2 = 0) (hc : m[k]? = some c) (hf : rfindP (ms.take i) c.id = some p) : verM ms i m = some 13 := by
  unfold verM
  rw [if_neg (by simpa using h), if_pos]
  rw [List.any_eq_true]
  exact ⟨c, List.mem_of_getElem? hc, by rw [hf]; rfl⟩
theorem verM_no {ms : List (List Cl)} {i : Nat} {m : List Cl} (h : (mcheckP m).2 = 0) (hf : ∀ (k : Nat) c, m[k]? = some c → rfindP (ms.take i) c.id = none) : verM ms i m = none := by
  unfold verM
  rw [if_neg (by simpa using h), if_neg]
  rw [List.any_eq_true]
  rintro ⟨c, hc, h2⟩
  obtain ⟨k, hk⟩ := List.getElem?_of_mem hc
  rw [hf k c hk] at h2
  cases h2
/-- What is read of the document's registry. -/
structure RefR (w : World) (xb : Nat) (delay : Int) (vs : List Value) (ss : List Mv) : Prop where
  len : vs.length = ss.length
  reg : ∃ A cp, CellsAt w xb 0 [.slice A ss.length cp, .int .i64 delay] ∧ Rd w A (rcells vs ss)
theorem refG_reads {w0 w : World} {S : List Nat} {L Lr : List Ent} {xb cp : Nat} {A : Option Addr} {delay : Int} {vs : List Value} {ss : List Mv} (hst : St w0 S w L) (hlen : vs.length = ss.length) (hrow : Row 58 6 (.slice A ss.length cp) (rcells vs ss) Lr) (hx : (xb, cel 61 [.slice A ss.length cp, .int .i64 delay]) ∈ L) (hs : ∀ p ∈ Lr, p ∈ L) : RefR w xb delay vs ss :=
  ⟨hlen, A, cp, by have := hst.cellsO (b := xb) (fr := (0, 0)) hx 0; simpa using this, row_rd hrow hst hs⟩
theorem rcells_cell {w : World} {bb oo g j : Nat} {vs : List Value} {ss : List Mv} {v u : Value} {s : Mv} (hc : CellsAt w bb oo (rcells vs ss)) (h1 : vs[g]? = some v) (h2 : ss[g]? = some s) (hj : j < 6) (hu : (rEl v s)[j]? = some u) : w.cell? ⟨bb, oo + g * 6 + j, none⟩ = some u := by
  have h3 := rcells_get (junk := []) h1 h2 hj
  rw [List.append_nil, hu, Nat.zero_add] at h3
  have := hc (g * 6 + j) u h3
  rwa [← Nat.add_assoc] at this
theorem rcells_app (vs : List Value) (ss : List Mv) (v : Value) (s : Mv) (h : vs.length = ss.length) : rcells (vs ++ [v]) (ss ++ [s]) = rcells vs ss ++ rEl v s := by
  simp [rcells, List.zipWith_append h]
theorem ents_app (xs : List Ms) (ss : List Mv) (x : Ms) (s : Mv) (h : xs.length = ss.length) : ents (xs ++ [x]) (ss ++ [s]) = ents xs ss ++ [(x.b, cel 91 (mCells x s))] := by
  simp [ents, List.zipWith_append h, mEnt]
theorem take_snoc {α : Type} {l : List α} {g : Nat} {x : α} (h : l[g]? = some x) : l.take (g + 1) = l.take g ++ [x] := by
  obtain ⟨hlt, rfl⟩ := List.getElem?_eq_some_iff.1 h
  exact List.take_succ_eq_append_getElem hlt
theorem cells_one {w : World} {b o g : Nat} {vs : List Value} {v : Value} (h : CellsAt w b o vs) (hv : vs[g]? = some v) : CellsAt w b (o + g * 1) [v] := fun j u hu => by
  match j, hu with
  | 0, hu => obtain rfl := Option.some.inj hu; rw [Nat.mul_one]; exact h g v hv
theorem el_ptr : ElT Try.prog 89 1 8 [.pointer none] := ElT.mk' (by kernel_rfl) zt89 rfl rfl
theorem el_xm : ElT Try.prog 58 6 48 [.slice none 0 0, .bool false, .int .u32 0, .int .u32 0, .int .u32 0, .int .i64 0] := ElT.mk' (by kernel_rfl) zt58 rfl rfl
theorem cl_id_own {w : World} {cl : Cl} {cs : List Value} (h : ClR w cl cs) : (cs.drop 0).take 16 = gcells cl.id := by
  obtain ⟨_, _, _, _, _, rfl, _⟩ := h.out
  exact clCells_id h.id
end Go.Proofs.Ytnebpklmbefmfaa
