/- Bytes as text; what is read, in plain Lean. -/
import Derived.Test.YtnebpklmbefmfaaOwned
import Derived.Test.YtnebpklmbefmfaaStr
import Derived.Laws.BytesArg
set_option linter.unusedVariables false
set_option linter.unusedSimpArgs false
namespace Go.Proofs.Ytnebpklmbefmfaa
open Go.RowKit
theorem row_len {e n cp : Nat} {A : Option Addr} {xs : List Value} {Lr : List Ent} (h : Row e 1 (.slice A n cp) xs Lr) : n = xs.length ∧ n ≤ cp := by
  obtain ⟨A', m', cp', he, h1, h2, -⟩ := h.slice (by decide)
  injection he with e1 e2 e3
  subst e2 e3
  omega
theorem byte_inj {a b : Int} (ha : 0 ≤ a ∧ a ≤ 255) (hb : 0 ≤ b ∧ b ≤ 255) (h : UInt8.ofNat a.toNat = UInt8.ofNat b.toNat) : a = b := by
  have h1 := congrArg UInt8.toNat h
  simp only [UInt8.toNat_ofNat'] at h1
  omega
theorem str_map : ∀ {xs ys : List Int}, Byt xs → Byt ys → xs.map (fun n => UInt8.ofNat n.toNat) = ys.map (fun n => UInt8.ofNat n.toNat) → xs = ys
  | [], [], _, _, _ => rfl
  | [], _ :: _, _, _, h => by simp at h
  | _ :: _, [], _, _, h => by simp at h
  | x :: xs, y :: ys, hx, hy, h => by
    simp only [List.map_cons, List.cons.injEq] at h
    rw [byte_inj (hx x (by simp)) (hy y (by simp)) h.1, str_map (fun z hz => hx z (by simp [hz])) (fun z hz => hy z (by simp [hz])) h.2]
theorem str_inj {xs ys : List Int} (hx : Byt xs) (hy : Byt ys) : (strOfNums xs = strOfNums ys) ↔ xs = ys := by
  refine ⟨fun h => ?_, fun h => by rw [h]⟩
  have := congrArg (fun s => s.data.toList) h
  simp only [strOfNums_data] at this
  exact str_map hx hy this
theorem run_conv {P : Program} {w : World} {A : Option Addr} {xs : List Int} {cp : Nat} {src e dst : TypeId} (hs : P.underlying src = some (.slice e)) (he : P.underlying e = some (.int .u8)) (hd : P.underlying dst = some .string) (h : Rd w A (gcells xs)) :
    (convert src dst (.slice A xs.length cp)).run P w = .ok (.string (strOfNums xs)) w := by
  cases xs with
  | nil =>
    rw [List.length_nil, run_convert_bytes_string w src dst e _ 0 cp hs he hd]
    cases A <;> simp [Conv.bytesToString, loadCells]
    all_goals rfl
  | cons x l =>
    obtain ⟨b, o, h1, h2⟩ := h
    obtain rfl := h1 (by simp [gcells])
    exact run_convert_bytes_arg w src e hs he b o _ cp _ rfl (fun i hi => h2 i _ (by simp only [gcells, List.getElem?_map, List.getD_eq_getElem?_getD, List.getElem?_eq_getElem hi]; rfl)) dst hd
section
variable {c : Cx} {Qp : Po} {K : Ko} {ρ : Env} {ds : Ds} {L : List Ent} {ol rest : List Oper} {d : Option Nat} {ty : TypeId} {pos : String} {af : Array Edge} {g : Option (Nat × Bool)} {x : Operand} {t t' e : TypeId}
theorem RL.convS {A : Option Addr} {xs : List Int} {cp : Nat} (hw : wantE c.n ol ρ ⟨d, .convert t t' x, ty, pos, af, g⟩ = true) (hs : c.P.underlying t = some (.slice e)) (he : c.P.underlying e = some (.int .u8)) (hd : c.P.underlying t' = some .string) (hx : evE c.n ρ x = .slice A xs.length cp)
    (h1 : ∀ w, St c.w0 c.S w L → Rd w A (gcells xs)) (h : RL c ol rest K Qp (updO ρ d (.string (strOfNums xs))) ds L) : RL c ol (⟨d, .convert t t' x, ty, pos, af, g⟩ :: rest) K Qp ρ ds L :=
  RL.read hw rfl (fun w hst => by simp only [execOp, hx, Sem.run_bind, run_conv hs he hd (h1 w hst), Result.andThen_ok, Sem.run_pure]) h
end
theorem pIns_byt (r : List Int) (x : Ins) (r' : List Int) (h : Byt r) (e : pIns r = some (x, r')) : True ∧ Byt r' := by
  unfold pIns at e
  split at e
  · cases e
  · simp only [Option.some.injEq, Prod.mk.injEq] at e
    rw [← e.2]; exact ⟨trivial, h.drop 6⟩
theorem pFace_byt (r : List Int) (x : Face) (r' : List Int) (h : Byt r) (e : pFace r = some (x, r')) : True ∧ Byt r' := by
  unfold pFace at e
  split at e
  · cases e
  · simp only [Option.some.injEq, Prod.mk.injEq] at e
    rw [← e.2]; exact ⟨trivial, h.drop 17⟩
theorem pCount_byt {r : List Int} {a : Int × List Int} (h : Byt r) (e : pCount r = some a) : (0 ≤ a.1 ∧ a.1 ≤ 255) ∧ Byt a.2 := by
  cases r with
  | nil => cases e
  | cons x l =>
    simp only [pCount, Option.some.injEq] at e
    subst e
    exact ⟨h x (by simp), fun z hz => h z (by simp [hz])⟩
theorem pMeth_sz (r : List Int) (l : List Ins) (r' : List Int) (h : Byt r) (e : pMeth r = some (l, r')) : l.length ≤ 1000 ∧ Byt r' := by
  unfold pMeth at e
  cases h1 : pCount r with
  | none => rw [h1] at e; cases e
  | some a =>
    rw [h1] at e
    simp only [Option.bind_some] at e
    obtain ⟨h2, h3⟩ := pCount_byt h h1
    have h4 := pN_len e
    exact ⟨by omega, (pN_all pIns_byt h3 e).2⟩
theorem pClass_sz (r : List Int) (c : Cl) (r' : List Int) (h : Byt r) (e : pClass r = some (c, r')) : ClSz c ∧ Byt r' := by
  unfold pClass at e
  split at e
  · cases e
  · cases h1 : pCount (r.drop 16) with
    | none => rw [h1] at e; cases e
    | some a =>
      rw [h1] at e; simp only [Option.bind_some] at e
      obtain ⟨a1, a2⟩ := pCount_byt (h.drop 16) h1
      cases h2 : pN pFace a.1.toNat a.2 with
      | none => rw [h2] at e; cases e
      | some b =>
        rw [h2] at e; simp only [Option.bind_some] at e
        have b1 := (pN_all (xs := b.1) (r' := b.2) pFace_byt a2 h2).2
        have b2 := pN_len (xs := b.1) (r' := b.2) h2
        cases h3 : pCount b.2 with
        | none => rw [h3] at e; cases e
        | some c1 =>
          rw [h3] at e; simp only [Option.bind_some] at e
          obtain ⟨c2, c3⟩ := pCount_byt b1 h3
          cases h4 : pCount c1.2 with
          | none => rw [h4] at e; cases e
          | some d =>
            rw [h4] at e; simp only [Option.bind_some] at e
            obtain ⟨d2, d3⟩ := pCount_byt c3 h4
            cases h5 : pN pMeth d.1.toNat d.2 with
            | none => rw [h5] at e; cases e
            | some f =>
              rw [h5] at e; simp only [Option.map_some, Option.some.injEq, Prod.mk.injEq] at e
              obtain ⟨f1, f2⟩ := pN_all (xs := f.1) (r' := f.2) pMeth_sz d3 h5
              have f3 := pN_len (xs := f.1) (r' := f.2) h5
              rw [← e.1, ← e.2]
              exact ⟨⟨by show b.1.length ≤ 1000; omega, by show f.1.length ≤ 1000; omega, f1⟩, f2⟩
theorem pMod_sz {r : List Int} {m : List Cl} (h : Byt r) (e : pMod r = some m) : m.length ≤ 1000 ∧ ∀ c ∈ m, ClSz c := by
  unfold pMod at e
  cases h1 : pCount r with
  | none => rw [h1] at e; cases e
  | some a =>
    rw [h1] at e; simp only [Option.bind_some] at e
    obtain ⟨a1, a2⟩ := pCount_byt h h1
    cases h2 : pN pClass a.1.toNat a.2 with
    | none => rw [h2] at e; cases e
    | some b =>
      rw [h2] at e; simp only [Option.map_some, Option.some.injEq] at e
      have b2 := pN_len (xs := b.1) (r' := b.2) h2
      rw [← e]
      exact ⟨by omega, (pN_all (xs := b.1) (r' := b.2) pClass_sz a2 h2).1⟩
/-- What a module's form is read as. -/
def decP (b : List Int) : Option (List Cl) := (pMod b).bind fun m => if (mcheckP m).2 = 0 ∧ encP m = b then some m else none
theorem u8_byt (n : Int) : 0 ≤ u8 n ∧ u8 n ≤ 255 := by rw [u8_eq]; omega
theorem byt_app {a b : List Int} (ha : Byt a) (hb : Byt b) : Byt (a ++ b) := fun x hx => (List.mem_append.1 hx).elim (ha x) (hb x)
theorem byt_flat {α : Type} {f : α → List Int} {l : List α} (h : ∀ x ∈ l, Byt (f x)) : Byt (l.map f).flatten := by
  intro z hz
  rw [List.mem_flatten] at hz
  obtain ⟨k, hk, hz⟩ := hz
  obtain ⟨x, hx, rfl⟩ := List.mem_map.1 hk
  exact h x hx z hz
theorem numX_byt (x : Int) : ∀ n, Byt (numX x n)
  | 0 => fun _ h => by cases h
  | n + 1 => byt_app (numX_byt x n) (fun z hz => by rw [List.mem_singleton] at hz; subst hz; unfold byteN; omega)
theorem encI_byt (x : Ins) : Byt (encI x) := byt_app (fun z hz => by simp at hz; rcases hz with rfl | rfl <;> exact u8_byt _) (numX_byt _ 4)
theorem encM_byt (l : List Ins) : Byt (encM l) := byt_app (a := [_]) (fun z hz => by simp at hz; subst hz; exact u8_byt _) (byt_flat fun x _ => encI_byt x)
theorem encF_byt {f : Face} (h : Byt f.id) : Byt (encF f) := byt_app h (fun z hz => by simp at hz; subst hz; exact u8_byt _)
theorem encC_byt {c : Cl} (h : Byt c.id) (hf : ∀ f ∈ c.faces, Byt f.id) : Byt (encC c) :=
  byt_app h (byt_app (a := [_]) (fun z hz => by simp at hz; subst hz; exact u8_byt _) (byt_app (byt_flat fun f hx => encF_byt (hf f hx)) (byt_app (fun z hz => by simp at hz; rcases hz with rfl | rfl <;> exact u8_byt _) (byt_flat fun l _ => encM_byt l))))
/-- Names are of bytes. -/
def ClB (c : Cl) : Prop := Byt c.id ∧ ∀ f ∈ c.faces, Byt f.id
theorem encP_byt {m : List Cl} (h : ∀ c ∈ m, ClB c) : Byt (encP m) := byt_app (a := [_]) (fun z hz => by simp at hz; subst hz; exact u8_byt _) (byt_flat fun c hc => encC_byt (h c hc).1 (h c hc).2)
theorem pFace_id (r : List Int) (x : Face) (r' : List Int) (h : Byt r) (e : pFace r = some (x, r')) : Byt x.id ∧ Byt r' := by
  unfold pFace at e
  split at e
  · cases e
  · simp only [Option.some.injEq, Prod.mk.injEq] at e
    rw [← e.1, ← e.2]; exact ⟨h.take 16, h.drop 17⟩
theorem pClass_id (r : List Int) (c : Cl) (r' : List Int) (h : Byt r) (e : pClass r = some (c, r')) : ClB c ∧ Byt r' := by
  have h0 := (pClass_sz r c r' h e).2
  refine ⟨?_, h0⟩
  unfold pClass at e
  split at e
  · cases e
  · cases h1 : pCount (r.drop 16) with
    | none => rw [h1] at e; cases e
    | some a =>
      rw [h1] at e; simp only [Option.bind_some] at e
      obtain ⟨a1, a2⟩ := pCount_byt (h.drop 16) h1
      cases h2 : pN pFace a.1.toNat a.2 with
      | none => rw [h2] at e; cases e
      | some b =>
        rw [h2] at e; simp only [Option.bind_some] at e
        have b1 := (pN_all (xs := b.1) (r' := b.2) pFace_id a2 h2).1
        cases h3 : pCount b.2 with
        | none => rw [h3] at e; cases e
        | some c1 =>
          rw [h3] at e; simp only [Option.bind_some] at e
          cases h4 : pCount c1.2 with
          | none => rw [h4] at e; cases e
          | some d =>
            rw [h4] at e; simp only [Option.bind_some] at e
            cases h5 : pN pMeth d.1.toNat d.2 with
            | none => rw [h5] at e; cases e
            | some f =>
              rw [h5] at e; simp only [Option.map_some, Option.some.injEq, Prod.mk.injEq] at e
              rw [← e.1]
              exact ⟨h.take 16, b1⟩
theorem pMod_id {r : List Int} {m : List Cl} (h : Byt r) (e : pMod r = some m) : ∀ c ∈ m, ClB c := by
  unfold pMod at e
  cases h1 : pCount r with
  | none => rw [h1] at e; cases e
  | some a =>
    rw [h1] at e; simp only [Option.bind_some] at e
    obtain ⟨a1, a2⟩ := pCount_byt h h1
    cases h2 : pN pClass a.1.toNat a.2 with
    | none => rw [h2] at e; cases e
    | some b =>
      rw [h2] at e; simp only [Option.map_some, Option.some.injEq] at e
      rw [← e]
      exact (pN_all (xs := b.1) (r' := b.2) pClass_id a2 h2).1
end Go.Proofs.Ytnebpklmbefmfaa
