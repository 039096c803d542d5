/- Registries: what moves, what stands; plain functions of them. -/
import Derived.Test.YtnebpklmbefmfaaDecode
set_option linter.unusedVariables false
set_option linter.unusedSimpArgs false
namespace Go.Proofs.Ytnebpklmbefmfaa
open Go.RowKit
/-! a place in an array -/
section
variable {c : Cx} {Qp : Po} {K : Ko} {ρ : Env} {ds : Ds} {L : List Ent} {ol rest : List Oper} {d : Option Nat} {ty : TypeId} {pos : String} {af : Array Edge} {g : Option (Nat × Bool)} {t : TypeId} {x y : Operand}
theorem RL.indexArr {e sz n j bb o : Nat} {k : IntKind} {i : Int} (hw : wantE c.n ol ρ ⟨d, .indexAddr t x y, ty, pos, af, g⟩ = true) (hu : c.P.underlying t = some (.array n e)) (hs : ∀ w, (sizeOf e).run c.P w = .ok sz w) (hx : evE c.n ρ x = .pointer (some ⟨bb, o, none⟩)) (hy : evE c.n ρ y = .int k i) (hj : i = (j : Int)) (hn : j < n)
    (h : RL c ol rest K Qp (updO ρ d (.pointer (some ⟨bb, o + j * sz, none⟩))) ds L) : RL c ol (⟨d, .indexAddr t x y, ty, pos, af, g⟩ :: rest) K Qp ρ ds L :=
  RL.pure hw rfl (fun w => by
    subst hj
    simp [execOp, hx, hy, Instr.indexAt, asIntOf, Sem.run_bind, run_underlying hu, hs, hn, addr_add, Instr.sureAddr]) h
end
/-! the three counters -/
def w32 (n : Int) : Int := IntKind.u32.wrap n
structure Mv where
  on : Bool
  c0 : Int
  c1 : Int
  c2 : Int
  idle : Int
  deriving DecidableEq
def Mv.cells (s : Mv) : List Value := [.bool s.on, .int .u32 s.c0, .int .u32 s.c1, .int .u32 s.c2, .int .i64 s.idle]
def Mv.c (s : Mv) (k : Nat) : Int := match k with | 0 => s.c0 | 1 => s.c1 | _ => s.c2
def Mv.put (s : Mv) (k : Nat) (n : Int) : Mv := match k with | 0 => ⟨true, n, s.c1, s.c2, 0⟩ | 1 => ⟨true, s.c0, n, s.c2, 0⟩ | _ => ⟨true, s.c0, s.c1, n, 0⟩
def mv0 : Mv := ⟨false, 0, 0, 0, 0⟩
def restsP (s : Mv) : Bool := s.on && decide (s.c0 = 0 ∧ s.c1 = 0 ∧ s.c2 = 0)
def tickP (s : Mv) : Mv := if restsP s then { s with idle := IntKind.i64.wrap (s.idle + 1) } else s
def leavesP (delay : Int) (s : Mv) : Bool := restsP s && decide (s.idle ≥ delay)
def freeP (delay : Int) (s : Mv) : Mv := if leavesP delay s then { s with on := false, idle := 0 } else s
def freedP (delay : Int) (ss : List Mv) (n : Nat) : List Int := ((List.range n).filter fun i => (ss[i]?).any (leavesP delay)).map Int.ofNat
/-- What a call of Count comes to. -/
def countP (ss : List Mv) (i what : Int) (up : Bool) : Int × List Mv :=
  if i < 0 ∨ (ss.length : Int) ≤ i ∨ what < 0 ∨ 2 < what then (1, ss)
  else match ss[i.toNat]? with
    | none => (1, ss)
    | some s => if (up = true ∧ s.c what.toNat = 4294967295) ∨ (up = false ∧ s.c what.toNat = 0) then (4, ss)
      else (0, ss.set i.toNat (s.put what.toNat (w32 (if up then s.c what.toNat + 1 else s.c what.toNat - 1))))
theorem eqg_c3 : Try.prog.eqGuardType Try.prog.depth 56 = false := by kernel_rfl
theorem eq_c3 (a b c : Int) : EqR Try.prog 10000 56 (.agg [Value.int .u32 a, .int .u32 b, .int .u32 c].toArray) (.agg [Value.int .u32 0, .int .u32 0, .int .u32 0].toArray) (a = 0 ∧ b = 0 ∧ c = 0) := by
  obtain ⟨i, hi⟩ := info_of_underlying (P := Try.prog) Try.underlying55
  refine (EqR.array (d := 9999) (sz := 1) (p := fun i => [a, b, c][i]? = some 0) Try.underlying56 hi (by kernel_rfl) (fun i hi => ?_)).congr ?_
  · match i, hi with
    | 0, _ => exact ⟨.int .u32 a, .int .u32 0, part_s sc55 rfl, part_s sc55 rfl, (EqR.int (d := 9998) Try.underlying55).congr (by simp)⟩
    | 1, _ => exact ⟨.int .u32 b, .int .u32 0, part_s sc55 rfl, part_s sc55 rfl, (EqR.int (d := 9998) Try.underlying55).congr (by simp)⟩
    | 2, _ => exact ⟨.int .u32 c, .int .u32 0, part_s sc55 rfl, part_s sc55 rfl, (EqR.int (d := 9998) Try.underlying55).congr (by simp)⟩
  · constructor
    · intro h
      have h0 := h 0 (by decide)
      have h1 := h 1 (by decide)
      have h2 := h 2 (by decide)
      simpa using And.intro h0 (And.intro h1 h2)
    · rintro ⟨rfl, rfl, rfl⟩ i hi
      match i, hi with
      | 0, _ => rfl
      | 1, _ => rfl
      | 2, _ => rfl
/-! what stands -/
structure Ms where
  b : Nat
  vf : Value
  vm : Value
def mCells (x : Ms) (s : Mv) : List Value := x.vf :: x.vm :: s.cells
def mEnt (x : Ms) (s : Mv) : Ent := (x.b, cel 91 (mCells x s))
def ents (xs : List Ms) (ss : List Mv) : List Ent := List.zipWith mEnt xs ss
def ptrs (xs : List Ms) : List Value := xs.map fun x => .pointer (some ⟨x.b, 0, none⟩)
theorem ptrs_length (xs : List Ms) : (ptrs xs).length = xs.length := by simp [ptrs]
theorem ptrs_get {xs : List Ms} {i : Nat} {x : Ms} (h : xs[i]? = some x) : (ptrs xs)[i]? = some (.pointer (some ⟨x.b, 0, none⟩)) := by simp [ptrs, h]
theorem ptrs_app {xs : List Ms} {junk : List Value} {i : Nat} {x : Ms} (h : xs[i]? = some x) : (ptrs xs ++ junk)[0 + i * 1]? = some (.pointer (some ⟨x.b, 0, none⟩)) := by
  rw [Nat.zero_add, Nat.mul_one, List.getElem?_append_left (by rw [ptrs_length]; exact (List.getElem?_eq_some_iff.1 h).1)]; exact ptrs_get h
theorem ents_at : ∀ {xs : List Ms} {ss : List Mv} {g : Nat} {x : Ms} {s : Mv}, xs[g]? = some x → ss[g]? = some s → ents xs ss = ents (xs.take g) (ss.take g) ++ (x.b, cel 91 (mCells x s)) :: ents (xs.drop (g + 1)) (ss.drop (g + 1))
  | x :: xs, s :: ss, 0, _, _, h1, h2 => by
    simp at h1 h2; subst h1 h2; simp [ents, mEnt]
  | x :: xs, s :: ss, g + 1, _, _, h1, h2 => by
    have := ents_at (xs := xs) (ss := ss) (g := g) (by simpa using h1) (by simpa using h2)
    simp only [ents, List.zipWith_cons_cons, List.take_succ_cons, List.drop_succ_cons, List.cons_append] at this ⊢
    rw [this]
theorem ents_set {xs : List Ms} {ss : List Mv} {g : Nat} {x : Ms} {s : Mv} (s' : Mv) (h1 : xs[g]? = some x) (h2 : ss[g]? = some s) : ents xs (ss.set g s') = ents (xs.take g) (ss.take g) ++ (x.b, cel 91 (mCells x s')) :: ents (xs.drop (g + 1)) (ss.drop (g + 1)) := by
  have hlt := (List.getElem?_eq_some_iff.1 h2).1
  rw [ents_at h1 (s := s') (by rw [List.getElem?_set_self hlt]), List.take_set_of_le (Nat.le_refl _), List.drop_set_of_lt (by omega)]
theorem ents_mem {xs : List Ms} {ss : List Mv} {g : Nat} {x : Ms} {s : Mv} (h1 : xs[g]? = some x) (h2 : ss[g]? = some s) : (x.b, cel 91 (mCells x s)) ∈ ents xs ss := by rw [ents_at h1 h2]; simp
abbrev RegG (rb : Nat) (A : Option Addr) (cp : Nat) (Lr : List Ent) (delay : Int) (xs : List Ms) (ss : List Mv) : List Ent := (rb, cel 83 [.slice A xs.length cp, .int .i64 delay]) :: (Lr ++ ents xs ss)
abbrev RowM (xs : List Ms) (A : Option Addr) (cp : Nat) (Lr : List Ent) : Prop := Row 89 1 (.slice A xs.length cp) (ptrs xs) Lr
/-- What is read of a registry. -/
structure RegR (w : World) (rb : Nat) (delay : Int) (xs : List Ms) (ss : List Mv) : Prop where
  len : ss.length = xs.length
  reg : ∃ A cp, CellsAt w rb 0 [.slice A xs.length cp, .int .i64 delay] ∧ Rd w A (ptrs xs)
  mods : ∀ (i : Nat) x s, xs[i]? = some x → ss[i]? = some s → CellsAt w x.b 0 (mCells x s)
theorem CellsAt.st0 {w0 w : World} {L : List Ent} {b o : Nat} {l : List Value} (hst : St w0 [] w L) (h : CellsAt w0 b o l) : CellsAt w b o l := fun j v hv => hst.cellI (h j v hv) (by simp)
theorem RegR.st0 {w0 w : World} {L : List Ent} {rb : Nat} {delay : Int} {xs : List Ms} {ss : List Mv} (h : RegR w0 rb delay xs ss) (hst : St w0 [] w L) : RegR w rb delay xs ss :=
  ⟨h.len, let ⟨A, cp, h1, h2⟩ := h.reg; ⟨A, cp, h1.st0 hst, h2.st0 hst⟩, fun i x s h1 h2 => (h.mods i x s h1 h2).st0 hst⟩
theorem regG_reads {w0 w : World} {S : List Nat} {L Lr : List Ent} {rb cp : Nat} {A : Option Addr} {delay : Int} {xs : List Ms} {ss : List Mv} (hst : St w0 S w L) (hrow : RowM xs A cp Lr) (hlen : ss.length = xs.length) (hs : ∀ p ∈ RegG rb A cp Lr delay xs ss, p ∈ L) : RegR w rb delay xs ss := by
  refine ⟨hlen, ⟨A, cp, ?_, row_rd hrow hst (fun p hp => hs p (by simp [RegG, hp]))⟩, fun i x s h1 h2 => ?_⟩
  · have := hst.cellsO (b := rb) (fr := (0, 0)) (hs _ List.mem_cons_self) 0
    simpa using this
  · have := hst.cellsO (b := x.b) (fr := (0, 0)) (hs _ (List.mem_cons_of_mem _ (List.mem_append_right _ (ents_mem h1 h2)))) 0
    simpa using this
def getM (xs : List Ms) (i : Int) : Option Ms := if i < 0 then none else xs[i.toNat]?
theorem getM_no {xs : List Ms} {i : Int} (h : i < 0 ∨ (xs.length : Int) ≤ i) : getM xs i = none := by
  unfold getM
  split
  · rfl
  · rw [List.getElem?_eq_none (by omega)]
theorem getM_at {xs : List Ms} {i : Int} {x : Ms} (h : getM xs i = some x) : ∃ j : Nat, i = (j : Int) ∧ j < xs.length ∧ xs[j]? = some x := by
  unfold getM at h
  split at h
  · cases h
  · exact ⟨i.toNat, by omega, (List.getElem?_eq_some_iff.1 h).1, h⟩
def getS (ss : List Mv) (i : Int) : Option Mv := if i < 0 then none else ss[i.toNat]?
theorem getS_none {xs : List Ms} {ss : List Mv} {i : Int} (hl : ss.length = xs.length) (h : getM xs i = none) : getS ss i = none := by
  unfold getM at h; unfold getS
  split
  · rfl
  · rename_i h0
    rw [if_neg h0, List.getElem?_eq_none_iff] at h
    exact List.getElem?_eq_none (by omega)
theorem getS_at {xs : List Ms} {ss : List Mv} {i : Int} {x : Ms} (hl : ss.length = xs.length) (h : getM xs i = some x) : ∃ (j : Nat) (s : Mv), i = (j : Int) ∧ xs[j]? = some x ∧ ss[j]? = some s ∧ getS ss i = some s := by
  obtain ⟨j, rfl, h1, h2⟩ := getM_at h
  obtain ⟨s, hs⟩ : ∃ s, ss[j]? = some s := ⟨_, List.getElem?_eq_getElem (by omega)⟩
  exact ⟨j, s, rfl, h2, hs, by unfold getS; rw [if_neg (by omega)]; simpa using hs⟩
def loadedP (ss : List Mv) (i : Int) : Bool := (getS ss i).any (·.on)
def idleP (ss : List Mv) (i : Int) : Int × Bool := match getS ss i with | some s => if restsP s then (s.idle, true) else (0, false) | none => (0, false)
/-! one behind the other -/
def mapT (f : Mv → Mv) (g : Nat) (ss : List Mv) : List Mv := (ss.take g).map f ++ ss.drop g
theorem mapT_zero (f : Mv → Mv) (ss : List Mv) : mapT f 0 ss = ss := by simp [mapT]
theorem mapT_all {f : Mv → Mv} {g : Nat} {ss : List Mv} (h : ss.length ≤ g) : mapT f g ss = ss.map f := by simp [mapT, List.take_of_length_le h, List.drop_of_length_le h]
theorem mapT_len (f : Mv → Mv) (g : Nat) (ss : List Mv) : (mapT f g ss).length = ss.length := by simp [mapT]; omega
theorem mapT_get {f : Mv → Mv} {g : Nat} {ss : List Mv} {s : Mv} (h : ss[g]? = some s) : (mapT f g ss)[g]? = some s := by
  have hlt := (List.getElem?_eq_some_iff.1 h).1
  unfold mapT
  rw [List.getElem?_append_right (by simp; omega)]
  simp only [List.length_map, List.length_take, Nat.min_eq_left (Nat.le_of_lt hlt), Nat.sub_self]
  rw [List.getElem?_drop, Nat.add_zero]; exact h
theorem mapT_succ {f : Mv → Mv} {g : Nat} {ss : List Mv} {s : Mv} (h : ss[g]? = some s) : mapT f (g + 1) ss = (mapT f g ss).set g (f s) := by
  obtain ⟨hlt, he⟩ := List.getElem?_eq_some_iff.1 h
  unfold mapT
  rw [List.set_append_right _ _ (by simp; omega)]
  simp only [List.length_map, List.length_take, Nat.min_eq_left (Nat.le_of_lt hlt), Nat.sub_self]
  rw [List.take_succ_eq_append_getElem hlt, List.drop_eq_getElem_cons hlt, he]
  simp
theorem mapT_skip {f : Mv → Mv} {g : Nat} {ss : List Mv} {s : Mv} (h : ss[g]? = some s) (hf : f s = s) : mapT f (g + 1) ss = mapT f g ss := by
  rw [mapT_succ h, hf]
  apply List.ext_getElem?
  intro i
  by_cases e : g = i
  · subst e; rw [mapT_get h, List.getElem?_set_self (by rw [mapT_len]; exact (List.getElem?_eq_some_iff.1 h).1)]
  · rw [List.getElem?_set_ne e]
theorem freedP_succ {delay : Int} {ss : List Mv} {g : Nat} {s : Mv} (h : ss[g]? = some s) : freedP delay ss (g + 1) = freedP delay ss g ++ (if leavesP delay s then [(g : Int)] else []) := by
  unfold freedP
  rw [List.range_succ, List.filter_append, List.map_append]
  congr 1
  simp only [List.filter_cons, List.filter_nil, h, Option.any_some]
  split <;> simp
theorem freedP_le (delay : Int) (ss : List Mv) (n : Nat) : (freedP delay ss n).length ≤ n := by
  unfold freedP
  rw [List.length_map]
  exact Nat.le_trans (List.length_filter_le _ _) (by simp)
theorem tickP_t {s : Mv} (h : restsP s = true) : tickP s = { s with idle := IntKind.i64.wrap (s.idle + 1) } := if_pos h
theorem tickP_f {s : Mv} (h : restsP s = false) : tickP s = s := by unfold tickP; rw [h]; rfl
theorem freeP_t {delay : Int} {s : Mv} (h : leavesP delay s = true) : freeP delay s = { s with on := false, idle := 0 } := if_pos h
theorem freeP_f {delay : Int} {s : Mv} (h : leavesP delay s = false) : freeP delay s = s := by unfold freeP; rw [h]; rfl
theorem ints_snoc (xs : List Int) (x : Int) : ints (xs ++ [x]) = ints xs ++ [.int .i64 x] := by simp [ints]
theorem mCells_c (x : Ms) (s : Mv) {k : Nat} (h : k < 3) : (mCells x s)[0 + 3 + k * 1]? = some (.int .u32 (s.c k)) := by
  match k, h with
  | 0, _ => rfl
  | 1, _ => rfl
  | 2, _ => rfl
theorem mCells_put (x : Ms) (s : Mv) (n : Int) {k : Nat} (h : k < 3) : (((mCells x s).set (0 + 3 + k * 1) (.int .u32 n)).set (0 + 2) (.bool true)).set (0 + 6) (.int .i64 0) = mCells x (s.put k n) := by
  match k, h with
  | 0, _ => rfl
  | 1, _ => rfl
  | 2, _ => rfl
theorem countP_bad {xs : List Ms} {ss : List Mv} {i what : Int} {up : Bool} (hl : ss.length = xs.length) (h : getM xs i = none ∨ what < 0 ∨ 2 < what) : countP ss i what up = (1, ss) := by
  unfold countP
  split
  · rfl
  · rename_i hn
    exfalso
    rcases h with h | h
    · unfold getM at h
      rw [if_neg (by omega), List.getElem?_eq_none_iff] at h
      omega
    · omega
theorem countP_at {ss : List Mv} {j k : Nat} {s : Mv} {up : Bool} (h : ss[j]? = some s) (hk : k < 3) : countP ss j k up = (if (up = true ∧ s.c k = 4294967295) ∨ (up = false ∧ s.c k = 0) then (4, ss) else (0, ss.set j (s.put k (w32 (if up then s.c k + 1 else s.c k - 1))))) := by
  have hlt := (List.getElem?_eq_some_iff.1 h).1
  unfold countP
  rw [if_neg (by omega)]
  simp only [Int.toNat_natCast, h]
theorem St.mod {w0 w : World} {S : List Nat} {L : List Ent} {x : Ms} {s : Mv} (hst : St w0 S w L) (hm : (x.b, cel 91 (mCells x s)) ∈ L) : CellsAt w x.b 0 (mCells x s) := by
  have := hst.cellsO (b := x.b) (fr := (0, 0)) hm 0
  simpa using this
/-! the document's -/
def rEl (v : Value) (s : Mv) : List Value := v :: s.cells
def rcells (vs : List Value) (ss : List Mv) : List Value := (List.zipWith rEl vs ss).flatten
theorem rEl_len (v : Value) (s : Mv) : (rEl v s).length = 6 := rfl
theorem rcells_len : ∀ {vs : List Value} {ss : List Mv}, vs.length = ss.length → (rcells vs ss).length = ss.length * 6
  | [], [], _ => rfl
  | v :: vs, s :: ss, h => by
    have := rcells_len (vs := vs) (ss := ss) (by simpa using h)
    simp only [rcells, List.zipWith_cons_cons, List.flatten_cons, List.length_append, rEl_len, List.length_cons] at this ⊢
    omega
theorem rcells_at : ∀ {vs : List Value} {ss : List Mv} {g : Nat} {v : Value} {s : Mv}, vs[g]? = some v → ss[g]? = some s → rcells vs ss = rcells (vs.take g) (ss.take g) ++ (rEl v s ++ rcells (vs.drop (g + 1)) (ss.drop (g + 1))) ∧ (rcells (vs.take g) (ss.take g)).length = g * 6
  | v :: vs, s :: ss, 0, _, _, h1, h2 => by
    simp at h1 h2; subst h1 h2; simp [rcells]
  | v :: vs, s :: ss, g + 1, _, _, h1, h2 => by
    obtain ⟨h3, h4⟩ := rcells_at (vs := vs) (ss := ss) (g := g) (by simpa using h1) (by simpa using h2)
    refine ⟨?_, ?_⟩
    · simp only [rcells, List.zipWith_cons_cons, List.take_succ_cons, List.drop_succ_cons, List.flatten_cons, List.append_assoc] at h3 ⊢
      rw [h3]
    · simp only [rcells, List.zipWith_cons_cons, List.take_succ_cons, List.flatten_cons, List.length_append, rEl_len] at h4 ⊢
      omega
section
variable {vs : List Value} {ss : List Mv} {g j : Nat} {v u : Value} {s : Mv} {junk : List Value}
theorem rcells_get (h1 : vs[g]? = some v) (h2 : ss[g]? = some s) (hj : j < 6) : (rcells vs ss ++ junk)[0 + g * 6 + j]? = (rEl v s)[j]? := by
  obtain ⟨h3, h4⟩ := rcells_at h1 h2
  rw [h3, List.append_assoc, List.getElem?_append_right (by omega), h4, List.append_assoc, List.getElem?_append_left (by rw [rEl_len]; omega)]
  congr 1
  omega
theorem rcells_take (h1 : vs[g]? = some v) (h2 : ss[g]? = some s) : ((rcells vs ss ++ junk).drop (0 + g * 6)).take 6 = rEl v s := by
  obtain ⟨h3, h4⟩ := rcells_at h1 h2
  rw [h3, List.append_assoc, List.drop_append, List.drop_of_length_le (by omega), h4, Nat.zero_add, Nat.sub_self, List.nil_append, List.drop_zero, List.append_assoc, List.take_append_of_le_length (by rw [rEl_len]; omega)]
  rfl
theorem rcells_set {s' : Mv} (h1 : vs[g]? = some v) (h2 : ss[g]? = some s) (hj : j < 6) (he : (rEl v s).set j u = rEl v s') : (rcells vs ss ++ junk).set (0 + g * 6 + j) u = rcells vs (ss.set g s') ++ junk := by
  obtain ⟨h3, h4⟩ := rcells_at h1 h2
  have hlt := (List.getElem?_eq_some_iff.1 h2).1
  obtain ⟨h5, h6⟩ := rcells_at (s := s') h1 (by rw [List.getElem?_set_self hlt] : (ss.set g s')[g]? = some s')
  rw [List.take_set_of_le (Nat.le_refl _), List.drop_set_of_lt (by omega)] at h5
  rw [h5, h3, List.append_assoc, List.set_append_right _ _ (by omega), h4, show 0 + g * 6 + j - g * 6 = j from by omega, List.append_assoc, List.set_append_left _ _ (by rw [rEl_len]; omega), he, List.append_assoc, List.append_assoc]
end
abbrev RefG (xb cb cp : Nat) (junk : List Value) (delay : Int) (vs : List Value) (ss : List Mv) (n : Nat) : List Ent := [(xb, cel 61 [.slice (some ⟨cb, 0, none⟩) n cp, .int .i64 delay]), (cb, cel 58 (rcells vs ss ++ junk))]
theorem rEl_c (v : Value) (s : Mv) {k : Nat} (h : k < 3) : (rEl v s)[2 + k]? = some (.int .u32 (s.c k)) := by
  match k, h with
  | 0, _ => rfl
  | 1, _ => rfl
  | 2, _ => rfl
/-- One counter is another. -/
def Mv.putc (s : Mv) (k : Nat) (n : Int) : Mv := match k with | 0 => { s with c0 := n } | 1 => { s with c1 := n } | _ => { s with c2 := n }
theorem rEl_putc (v : Value) (s : Mv) (n : Int) {k : Nat} (h : k < 3) : (rEl v s).set (2 + k) (.int .u32 n) = rEl v (s.putc k n) := by
  match k, h with
  | 0, _ => rfl
  | 1, _ => rfl
  | 2, _ => rfl
theorem putc_put (s : Mv) (n : Int) (k : Nat) : { (s.putc k n) with on := true, idle := 0 } = s.put k n := by
  unfold Mv.putc Mv.put; split <;> rfl
theorem set_set_at {ss : List Mv} {g : Nat} (a b : Mv) : (ss.set g a).set g b = ss.set g b := List.set_set ..
end Go.Proofs.Ytnebpklmbefmfaa
