/- What the document's reader reads, in plain Lean; places within an array. -/
import Derived.Test.YtdnnnbjmjjdcfaaBack
set_option linter.unusedVariables false
set_option linter.unusedSimpArgs false
namespace Go.Proofs.Ytdnnnbjmjjdcfaa
open Go.RowKit
section
variable {c : Cx} {Qp : Po} {K : Ko} {ρ : Env} {ds : Ds} {L : List Ent} {ol rest : List Oper} {d : Option Nat} {ty : TypeId} {pos : String} {af : Array Edge} {g : Option (Nat × Bool)} {t : TypeId} {x y : Operand} {k : IntKind}
theorem RL.indexArr {e sz n j bb o : Nat} {i : Int} (hw : wantE c.n ol ρ ⟨d, .indexAddr t x y, ty, pos, af, g⟩ = true) (hu : c.P.underlying t = some (.array n e)) (hs : ∀ w, (sizeOf e).run c.P w = .ok sz w) (hx : evE c.n ρ x = .pointer (some ⟨bb, o, none⟩)) (hy : evE c.n ρ y = .int k i) (hj : i = (j : Int)) (hn : j < n)
    (h : RL c ol rest K Qp (updO ρ d (.pointer (some ⟨bb, o + j * sz, none⟩))) ds L) : RL c ol (⟨d, .indexAddr t x y, ty, pos, af, g⟩ :: rest) K Qp ρ ds L :=
  RL.pure hw rfl (fun w => by
    subst hj
    simp [execOp, hx, hy, Instr.indexAt, asIntOf, Instr.sureAddr, Sem.run_bind, run_underlying hu, hs, hn, addr_add]) h
end
def rId (r : List Int) (p : Nat) : List Int := (List.range 16).map fun j => u8 (r.getD (p + j) 0)
def rFace (r : List Int) (p : Nat) : Face := ⟨rId r p, r.getD (p + 16) 0 - 1⟩
def rFaces (r : List Int) (p k : Nat) : List Face := (List.range k).map fun j => rFace r (p + 17 * j)
def rNum (r : List Int) (p : Nat) : Int := r.getD (p + 2) 0 + 256 * r.getD (p + 3) 0 + 65536 * r.getD (p + 4) 0 + 16777216 * r.getD (p + 5) 0
def rSgn (x : Int) : Int := if x > 2147483647 then x - 4294967296 else x
def rIns (r : List Int) (p : Nat) : Ins := ⟨r.getD p 0, rSgn (rNum r p), r.getD (p + 1) 0⟩
def rMeth (r : List Int) (p k : Nat) : List Ins := (List.range k).map fun j => rIns r (p + 6 * j)
def rMeths (r : List Int) (p : Nat) : Nat → List (List Ins) × Nat
  | 0 => ([], p)
  | k + 1 => ((rMeths r p k).1 ++ [rMeth r ((rMeths r p k).2 + 1) (r.getD (rMeths r p k).2 0).toNat], (rMeths r p k).2 + 1 + 6 * (r.getD (rMeths r p k).2 0).toNat)
def rQ (r : List Int) (p : Nat) : Nat := p + 17 + 17 * (r.getD (p + 16) 0).toNat
def rClass (r : List Int) (p : Nat) : Cl × Nat :=
  (⟨rId r p, rFaces r (p + 17) (r.getD (p + 16) 0).toNat, r.getD (rQ r p) 0, (rMeths r (rQ r p + 2) (r.getD (rQ r p + 1) 0).toNat).1⟩, (rMeths r (rQ r p + 2) (r.getD (rQ r p + 1) 0).toNat).2)
def rCls (r : List Int) : Nat → List Cl × Nat
  | 0 => ([], 1)
  | k + 1 => ((rCls r k).1 ++ [(rClass r (rCls r k).2).1], (rClass r (rCls r k).2).2)
theorem rId_len (r : List Int) (p : Nat) : (rId r p).length = 16 := by simp [rId]
theorem set_snoc {xs : List Int} {g : Nat} {v : Int} (h : xs.length = g) (hg : g < 16) : (gcells (xs ++ List.replicate (16 - g) 0)).set (0 + g * 1) (.int .u8 v) = gcells (xs ++ [v] ++ List.replicate (16 - (g + 1)) 0) := by
  obtain ⟨n, hn⟩ : ∃ n, 16 - g = n + 1 := ⟨16 - g - 1, by omega⟩
  rw [hn, show 16 - (g + 1) = n by omega, List.replicate_succ]
  simp only [gcells, List.map_append, List.map_cons, List.map_nil, Nat.zero_add, Nat.mul_one]
  rw [List.set_append_right _ _ (by rw [List.length_map]; omega), List.length_map, h, Nat.sub_self]
  simp
theorem drop_getD {r : List Int} {p i : Nat} : (r.drop p).getD i 0 = r.getD (p + i) 0 := by
  rw [List.getD_eq_getElem?_getD, List.getD_eq_getElem?_getD, List.getElem?_drop]
theorem take_id {r : List Int} (hb : Byt r) {p : Nat} (h : p + 16 ≤ r.length) : (r.drop p).take 16 = rId r p := by
  apply List.ext_getElem?
  intro i
  rw [List.getElem?_take]
  unfold rId
  rw [List.getElem?_map]
  by_cases hi : i < 16
  · rw [if_pos hi, List.getElem?_range hi, List.getElem?_drop, List.getElem?_eq_getElem (by omega)]
    simp only [Option.map_some, List.getD_eq_getElem?_getD, List.getElem?_eq_getElem (show p + i < r.length by omega), Option.getD_some]
    rw [u8_id (hb _ (List.getElem_mem _))]
  · rw [if_neg hi, List.getElem?_eq_none (l := List.range 16) (by simp; omega)]; rfl
theorem sgn_i32 {x : Int} (h : 0 ≤ x ∧ x < 4294967296) : i32 x = rSgn x := by
  unfold i32 rSgn
  simp only [IntKind.wrap, IntKind.signed, IntKind.bits]
  by_cases hx : x > 2147483647
  · rw [if_pos hx]; simp; omega
  · rw [if_neg hx]; simp; omega
theorem pFace_ref {r r' : List Int} {f : Face} (hb : Byt r) {p : Nat} (h : pFace (r.drop p) = some (f, r')) : f = rFace r p ∧ r' = r.drop (p + 17) ∧ p + 17 ≤ r.length := by
  unfold pFace at h
  split at h
  · cases h
  · rename_i hl
    rw [List.length_drop] at hl
    simp only [Option.some.injEq, Prod.mk.injEq] at h
    refine ⟨?_, ?_, by omega⟩
    · rw [← h.1, take_id hb (by omega), drop_getD]; rfl
    · rw [← h.2, List.drop_drop]
theorem pIns_ref {r r' : List Int} {x : Ins} (hb : Byt r) {p : Nat} (h : pIns (r.drop p) = some (x, r')) : x = rIns r p ∧ r' = r.drop (p + 6) ∧ p + 6 ≤ r.length := by
  unfold pIns at h
  split at h
  · cases h
  · rename_i hl
    rw [List.length_drop] at hl
    simp only [Option.some.injEq, Prod.mk.injEq] at h
    refine ⟨?_, ?_, by omega⟩
    · rw [← h.1]
      simp only [drop_getD]
      have h2 := hb.at (p + 2)
      have h3 := hb.at (p + 3)
      have h4 := hb.at (p + 4)
      have h5 := hb.at (p + 5)
      rw [sgn_i32 (by unfold num32; omega)]
      rfl
    · rw [← h.2, List.drop_drop]
theorem pN_ref {α : Type} {p : List Int → Option (α × List Int)} {f : Nat → α} {sz : Nat} {r : List Int} (hp : ∀ q x r', p (r.drop q) = some (x, r') → x = f q ∧ r' = r.drop (q + sz) ∧ q + sz ≤ r.length) :
    ∀ (k q : Nat) (xs : List α) (r' : List Int), q ≤ r.length → pN p k (r.drop q) = some (xs, r') → xs = (List.range k).map (fun j => f (q + sz * j)) ∧ r' = r.drop (q + sz * k) ∧ q + sz * k ≤ r.length
  | 0, q, xs, r', hq, h => by
    simp only [pN, Option.some.injEq, Prod.mk.injEq] at h
    exact ⟨by rw [← h.1]; rfl, by rw [← h.2]; rfl, by simpa using hq⟩
  | k + 1, q, xs, r', hq, h => by
    simp only [pN] at h
    cases h1 : pN p k (r.drop q) with
    | none => rw [h1] at h; cases h
    | some a =>
      rw [h1] at h
      simp only [Option.bind_some] at h
      obtain ⟨e1, e2, e3⟩ := pN_ref hp k q a.1 a.2 hq h1
      cases h2 : p a.2 with
      | none => rw [h2] at h; cases h
      | some b =>
        rw [h2] at h
        simp only [Option.map_some, Option.some.injEq, Prod.mk.injEq] at h
        rw [e2] at h2
        obtain ⟨e4, e5, e6⟩ := hp _ b.1 b.2 h2
        have e7 : q + sz * (k + 1) = q + sz * k + sz := by rw [Nat.mul_succ]; omega
        refine ⟨?_, by rw [← h.2, e5, e7], by rw [e7]; exact e6⟩
        rw [← h.1, e1, e4, List.range_succ, List.map_append]; rfl
theorem pCount_ref {r : List Int} {p : Nat} {a : Int × List Int} (h : pCount (r.drop p) = some a) : a = (r.getD p 0, r.drop (p + 1)) ∧ p + 1 ≤ r.length := by
  rcases Nat.lt_or_ge p r.length with hp | hp
  · rw [drop_cons hp] at h
    simp only [pCount, Option.some.injEq] at h
    exact ⟨h.symm, hp⟩
  · rw [List.drop_eq_nil_of_le hp] at h; cases h
theorem pMeth_ref {r r' : List Int} {l : List Ins} (hb : Byt r) {p : Nat} (h : pMeth (r.drop p) = some (l, r')) : l = rMeth r (p + 1) (r.getD p 0).toNat ∧ r' = r.drop (p + 1 + 6 * (r.getD p 0).toNat) ∧ p + 1 + 6 * (r.getD p 0).toNat ≤ r.length := by
  unfold pMeth at h
  cases h1 : pCount (r.drop p) with
  | none => rw [h1] at h; cases h
  | some a =>
    rw [h1] at h
    obtain ⟨rfl, h2⟩ := pCount_ref h1
    exact pN_ref (f := rIns r) (sz := 6) (fun q x r' hq => pIns_ref hb hq) _ _ _ _ h2 h
theorem pMeths_ref {r : List Int} (hb : Byt r) : ∀ (k p : Nat) (ls : List (List Ins)) (r' : List Int), p ≤ r.length → pN pMeth k (r.drop p) = some (ls, r') → ls = (rMeths r p k).1 ∧ r' = r.drop (rMeths r p k).2 ∧ (rMeths r p k).2 ≤ r.length
  | 0, p, ls, r', hp, h => by
    simp only [pN, Option.some.injEq, Prod.mk.injEq] at h
    exact ⟨h.1.symm, h.2.symm, hp⟩
  | k + 1, p, ls, r', hp, h => by
    simp only [pN] at h
    cases h1 : pN pMeth k (r.drop p) with
    | none => rw [h1] at h; cases h
    | some a =>
      rw [h1] at h
      simp only [Option.bind_some] at h
      obtain ⟨e1, e2, e3⟩ := pMeths_ref hb k p a.1 a.2 hp h1
      cases h2 : pMeth a.2 with
      | none => rw [h2] at h; cases h
      | some b =>
        rw [h2] at h
        simp only [Option.map_some, Option.some.injEq, Prod.mk.injEq] at h
        rw [e2] at h2
        obtain ⟨e4, e5, e6⟩ := pMeth_ref hb (l := b.1) (r' := b.2) h2
        exact ⟨by rw [← h.1, e1, e4]; rfl, by rw [← h.2, e5]; rfl, e6⟩
theorem pClass_ref {r r' : List Int} {c : Cl} (hb : Byt r) {p : Nat} (e : pClass (r.drop p) = some (c, r')) : c = (rClass r p).1 ∧ r' = r.drop (rClass r p).2 ∧ (rClass r p).2 ≤ r.length ∧ p < r.length := by
  unfold pClass at e
  split at e
  · cases e
  · rename_i hl
    rw [List.length_drop] at hl
    rw [List.drop_drop] at e
    cases h1 : pCount (r.drop (p + 16)) with
    | none => rw [h1] at e; cases e
    | some a =>
      rw [h1] at e; simp only [Option.bind_some] at e
      obtain ⟨rfl, a2⟩ := pCount_ref h1
      cases h2 : pN pFace (r.getD (p + 16) 0).toNat (r.drop (p + 16 + 1)) with
      | none => rw [h2] at e; cases e
      | some b =>
        rw [h2] at e; simp only [Option.bind_some] at e
        obtain ⟨b1, b2, b3⟩ := pN_ref (f := rFace r) (sz := 17) (fun q x r' hq => pFace_ref hb hq) _ _ b.1 b.2 a2 h2
        rw [b2] at e
        cases h3 : pCount (r.drop (p + 16 + 1 + 17 * (r.getD (p + 16) 0).toNat)) with
        | none => rw [h3] at e; cases e
        | some c1 =>
          rw [h3] at e; simp only [Option.bind_some] at e
          obtain ⟨rfl, c2⟩ := pCount_ref h3
          cases h4 : pCount (r.drop (p + 16 + 1 + 17 * (r.getD (p + 16) 0).toNat + 1)) with
          | none => rw [h4] at e; cases e
          | some d =>
            rw [h4] at e; simp only [Option.bind_some] at e
            obtain ⟨rfl, d2⟩ := pCount_ref h4
            cases h5 : pN pMeth (r.getD (p + 16 + 1 + 17 * (r.getD (p + 16) 0).toNat + 1) 0).toNat (r.drop (p + 16 + 1 + 17 * (r.getD (p + 16) 0).toNat + 1 + 1)) with
            | none => rw [h5] at e; cases e
            | some f =>
              rw [h5] at e; simp only [Option.map_some, Option.some.injEq, Prod.mk.injEq] at e
              obtain ⟨f1, f2, f3⟩ := pMeths_ref hb _ _ f.1 f.2 d2 h5
              refine ⟨?_, ?_, f3, by omega⟩
              · rw [← e.1, b1, f1, take_id hb (by omega)]; rfl
              · rw [← e.2, f2]; rfl
theorem pCls_ref {r : List Int} (hb : Byt r) (h1 : 1 ≤ r.length) : ∀ (k : Nat) (m : List Cl) (r' : List Int), pN pClass k (r.drop 1) = some (m, r') → m = (rCls r k).1 ∧ r' = r.drop (rCls r k).2 ∧ (rCls r k).2 ≤ r.length ∧ ∀ j, j < k → (rCls r j).2 < r.length
  | 0, m, r', h => by
    simp only [pN, Option.some.injEq, Prod.mk.injEq] at h
    exact ⟨h.1.symm, h.2.symm, h1, fun j hj => absurd hj (Nat.not_lt_zero j)⟩
  | k + 1, m, r', h => by
    simp only [pN] at h
    cases h2 : pN pClass k (r.drop 1) with
    | none => rw [h2] at h; cases h
    | some a =>
      rw [h2] at h
      simp only [Option.bind_some] at h
      obtain ⟨e1, e2, e3, e8⟩ := pCls_ref hb h1 k a.1 a.2 h2
      cases h3 : pClass a.2 with
      | none => rw [h3] at h; cases h
      | some b =>
        rw [h3] at h
        simp only [Option.map_some, Option.some.injEq, Prod.mk.injEq] at h
        rw [e2] at h3
        obtain ⟨e4, e5, e6, e7⟩ := pClass_ref hb (c := b.1) (r' := b.2) h3
        refine ⟨by rw [← h.1, e1, e4]; rfl, by rw [← h.2, e5]; rfl, e6, fun j hj => ?_⟩
        rcases Nat.lt_succ_iff_lt_or_eq.1 hj with h9 | rfl
        · exact e8 j h9
        · exact e7
theorem rFaces_succ (r : List Int) (p k : Nat) : rFaces r p (k + 1) = rFaces r p k ++ [rFace r (p + 17 * k)] := by unfold rFaces; rw [List.range_succ, List.map_append]; rfl
theorem rMeth_succ (r : List Int) (p k : Nat) : rMeth r p (k + 1) = rMeth r p k ++ [rIns r (p + 6 * k)] := by unfold rMeth; rw [List.range_succ, List.map_append]; rfl
theorem rFaces_len (r : List Int) (p k : Nat) : (rFaces r p k).length = k := by simp [rFaces]
theorem rMeth_len (r : List Int) (p k : Nat) : (rMeth r p k).length = k := by simp [rMeth]
theorem rFaces_ok (r : List Int) (p k : Nat) : ∀ f ∈ rFaces r p k, FaceOk f := by
  intro f hf
  unfold rFaces at hf
  obtain ⟨j, _, rfl⟩ := List.mem_map.1 hf
  exact rId_len r _
/-- What the document's reader has read when it stops. -/
theorem ref_some {r : List Int} {m : List Cl} (hb : Byt r) (h : pMod r = some m) {k : Nat} (hk : k ≤ (r.getD 0 0).toNat) (hstop : k = (r.getD 0 0).toNat ∨ r.length ≤ (rCls r k).2) : (rCls r k).1 = m := by
  unfold pMod at h
  cases h1 : pCount r with
  | none => rw [h1] at h; cases h
  | some a =>
    rw [h1] at h; simp only [Option.bind_some] at h
    obtain ⟨rfl, a2⟩ := pCount_ref (p := 0) (a := a) (by rw [List.drop_zero]; exact h1)
    cases h2 : pN pClass (r.getD 0 0).toNat (r.drop (0 + 1)) with
    | none => rw [h2] at h; cases h
    | some b =>
      rw [h2] at h; simp only [Option.map_some, Option.some.injEq] at h
      obtain ⟨e1, e2, e3, e4⟩ := pCls_ref hb (by omega) _ b.1 b.2 h2
      have hk2 : k = (r.getD 0 0).toNat := by
        rcases hstop with e | e
        · exact e
        · rcases Nat.lt_or_ge k (r.getD 0 0).toNat with h5 | h5
          · have := e4 k h5; omega
          · omega
      rw [← h, e1, hk2]
end Go.Proofs.Ytdnnnbjmjjdcfaa
