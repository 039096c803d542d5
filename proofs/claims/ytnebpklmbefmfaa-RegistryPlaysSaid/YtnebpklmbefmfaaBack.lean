/- A module's form is read back; cut short or longer it is none. In plain Lean. -/
import Derived.Test.YtnebpklmbefmfaaDecode
set_option linter.unusedVariables false
set_option linter.unusedSimpArgs false
namespace Go.Proofs.Ytnebpklmbefmfaa
open Go.RowKit
theorem getD_app {r s : List Int} {i : Nat} (h : i < r.length) : (r ++ s).getD i 0 = r.getD i 0 := by
  rw [List.getD_eq_getElem?_getD, List.getD_eq_getElem?_getD, List.getElem?_append_left h]
theorem pN_app {α : Type} {p : List Int → Option (α × List Int)} (hp : ∀ r x r' s, p r = some (x, r') → p (r ++ s) = some (x, r' ++ s)) : ∀ (k : Nat) (r : List Int) (xs : List α) (r' s : List Int), pN p k r = some (xs, r') → pN p k (r ++ s) = some (xs, r' ++ s)
  | 0, r, xs, r', s, h => by
    simp only [pN, Option.some.injEq, Prod.mk.injEq] at h ⊢
    exact ⟨h.1, by rw [h.2]⟩
  | k + 1, r, xs, r', s, h => by
    simp only [pN] at h ⊢
    cases h1 : pN p k r with
    | none => rw [h1] at h; cases h
    | some a =>
      rw [h1] at h
      simp only [Option.bind_some] at h
      cases h2 : p a.2 with
      | none => rw [h2] at h; cases h
      | some b =>
        rw [h2] at h
        simp only [Option.map_some, Option.some.injEq, Prod.mk.injEq] at h
        rw [pN_app hp k r a.1 a.2 s h1]
        simp only [Option.bind_some]
        rw [hp a.2 b.1 b.2 s h2]
        simp only [Option.map_some, Option.some.injEq, Prod.mk.injEq]
        exact ⟨h.1, by rw [h.2]⟩
theorem pCount_app {r : List Int} {a : Int × List Int} (s : List Int) (h : pCount r = some a) : pCount (r ++ s) = some (a.1, a.2 ++ s) := by
  cases r with
  | nil => cases h
  | cons x l =>
    simp only [pCount, Option.some.injEq] at h
    subst h; rfl
theorem pIns_app (r : List Int) (x : Ins) (r' s : List Int) (h : pIns r = some (x, r')) : pIns (r ++ s) = some (x, r' ++ s) := by
  unfold pIns at h ⊢
  split at h
  · cases h
  · rename_i hl
    rw [if_neg (by rw [List.length_append]; omega), getD_app (by omega), getD_app (by omega), getD_app (by omega), getD_app (by omega), getD_app (by omega), getD_app (by omega), List.drop_append_of_le_length (by omega)]
    simp only [Option.some.injEq, Prod.mk.injEq] at h ⊢
    exact ⟨h.1, by rw [h.2]⟩
theorem pFace_app (r : List Int) (x : Face) (r' s : List Int) (h : pFace r = some (x, r')) : pFace (r ++ s) = some (x, r' ++ s) := by
  unfold pFace at h ⊢
  split at h
  · cases h
  · rename_i hl
    rw [if_neg (by rw [List.length_append]; omega), getD_app (by omega), List.drop_append_of_le_length (by omega), List.take_append_of_le_length (by omega)]
    simp only [Option.some.injEq, Prod.mk.injEq] at h ⊢
    exact ⟨h.1, by rw [h.2]⟩
theorem pMeth_app (r : List Int) (l : List Ins) (r' s : List Int) (h : pMeth r = some (l, r')) : pMeth (r ++ s) = some (l, r' ++ s) := by
  unfold pMeth at h ⊢
  cases h1 : pCount r with
  | none => rw [h1] at h; cases h
  | some a =>
    rw [h1] at h
    rw [pCount_app s h1]
    exact pN_app pIns_app _ _ _ _ s h
theorem pClass_app (r : List Int) (c : Cl) (r' s : List Int) (e : pClass r = some (c, r')) : pClass (r ++ s) = some (c, r' ++ s) := by
  unfold pClass at e ⊢
  split at e
  · cases e
  · rename_i hl
    rw [if_neg (by rw [List.length_append]; omega), List.drop_append_of_le_length (by omega), List.take_append_of_le_length (by omega)]
    cases h1 : pCount (r.drop 16) with
    | none => rw [h1] at e; cases e
    | some a =>
      rw [h1] at e; simp only [Option.bind_some] at e
      rw [pCount_app s h1]; simp only [Option.bind_some]
      cases h2 : pN pFace a.1.toNat a.2 with
      | none => rw [h2] at e; cases e
      | some b =>
        rw [h2] at e; simp only [Option.bind_some] at e
        rw [pN_app pFace_app _ _ b.1 b.2 s h2]; simp only [Option.bind_some]
        cases h3 : pCount b.2 with
        | none => rw [h3] at e; cases e
        | some c1 =>
          rw [h3] at e; simp only [Option.bind_some] at e
          rw [pCount_app s h3]; simp only [Option.bind_some]
          cases h4 : pCount c1.2 with
          | none => rw [h4] at e; cases e
          | some d =>
            rw [h4] at e; simp only [Option.bind_some] at e
            rw [pCount_app s h4]; simp only [Option.bind_some]
            cases h5 : pN pMeth d.1.toNat d.2 with
            | none => rw [h5] at e; cases e
            | some f =>
              rw [h5] at e; simp only [Option.map_some, Option.some.injEq, Prod.mk.injEq] at e
              rw [pN_app pMeth_app _ _ f.1 f.2 s h5]
              simp only [Option.map_some, Option.some.injEq, Prod.mk.injEq]
              exact ⟨e.1, by rw [e.2]⟩
theorem pMod_app {r : List Int} {m : List Cl} (s : List Int) (e : pMod r = some m) : pMod (r ++ s) = some m := by
  unfold pMod at e ⊢
  cases h1 : pCount r with
  | none => rw [h1] at e; cases e
  | some a =>
    rw [h1] at e; simp only [Option.bind_some] at e
    rw [pCount_app s h1]; simp only [Option.bind_some]
    cases h2 : pN pClass a.1.toNat a.2 with
    | none => rw [h2] at e; cases e
    | some b =>
      rw [h2] at e; simp only [Option.map_some, Option.some.injEq] at e
      rw [pN_app pClass_app _ _ b.1 b.2 s h2]
      simpa using e
/-! There and back. -/
theorem pN_back {α : Type} {p : List Int → Option (α × List Int)} {f : α → List Int} : ∀ (xs : List α) (_ : ∀ x ∈ xs, ∀ s, p (f x ++ s) = some (x, s)) (s : List Int), pN p xs.length ((xs.map f).flatten ++ s) = some (xs, s) := by
  intro xs
  obtain ⟨n, hn⟩ : ∃ n, xs.length = n := ⟨_, rfl⟩
  induction n generalizing xs with
  | zero =>
    intro _ s
    obtain rfl := List.eq_nil_of_length_eq_zero hn
    rfl
  | succ n ih =>
    intro hp s
    obtain ⟨ys, y, rfl⟩ : ∃ ys y, xs = ys ++ [y] := ⟨xs.dropLast, xs.getLast (by intro h; simp [h] at hn), (List.dropLast_concat_getLast _).symm⟩
    have hy : ys.length = n := by simp at hn; exact hn
    have h1 := ih ys hy (fun x hx => hp x (by simp [hx])) (f y ++ s)
    rw [show (ys ++ [y]).length = ys.length + 1 by simp]
    simp only [pN, List.map_append, List.flatten_append, List.map_cons, List.map_nil, List.flatten_cons, List.flatten_nil, List.append_nil, List.append_assoc]
    rw [h1]
    simp only [Option.bind_some]
    rw [hp y (by simp) s]
    rfl
theorem byteN0 {u : Int} : byteN u 0 = u % 256 := by simp [byteN]
theorem num_back (a : Int) (ha : -2147483648 ≤ a ∧ a ≤ 2147483647) : i32 (num32 (byteN (IntKind.u32.wrap a) 0) (byteN (IntKind.u32.wrap a) 1) (byteN (IntKind.u32.wrap a) 2) (byteN (IntKind.u32.wrap a) 3)) = a := by
  rw [u32_eq]
  simp only [byteN, num32, i32, IntKind.wrap, IntKind.signed, IntKind.bits]
  simp
  omega
theorem u8_id {n : Int} (h : 0 ≤ n ∧ n ≤ 255) : u8 n = n := by rw [u8_eq]; omega
def InsRng (x : Ins) : Prop := (0 ≤ x.op ∧ x.op ≤ 255) ∧ (0 ≤ x.b ∧ x.b ≤ 255) ∧ (-2147483648 ≤ x.a ∧ x.a ≤ 2147483647)
theorem pIns_back {x : Ins} (h : InsRng x) (s : List Int) : pIns (encI x ++ s) = some (x, s) := by
  obtain ⟨h1, h2, h3⟩ := h
  have e : encI x ++ s = u8 x.op :: u8 x.b :: byteN (IntKind.u32.wrap x.a) 0 :: byteN (IntKind.u32.wrap x.a) 1 :: byteN (IntKind.u32.wrap x.a) 2 :: byteN (IntKind.u32.wrap x.a) 3 :: s := by
    simp [encI, numX]
  rw [e, u8_id h1, u8_id h2]
  unfold pIns
  rw [if_neg (by simp only [List.length_cons]; omega)]
  exact congrArg (fun n => some ((⟨x.op, n, x.b⟩ : Ins), s)) (num_back x.a h3)
theorem pFace_back {f : Face} (h : FaceOk f) (hb : -1 ≤ f.base ∧ f.base < 16) (s : List Int) : pFace (encF f ++ s) = some (f, s) := by
  have hid : f.id.length = 16 := h
  unfold pFace encF
  rw [u8_id (by omega), if_neg (by simp; omega)]
  rw [List.append_assoc, List.take_append_of_le_length (by omega), List.take_of_length_le (by omega), List.getD_eq_getElem?_getD, List.getElem?_append_right (by omega), show (17 : Nat) = f.id.length + 1 by omega, List.drop_append, hid]
  simp
  omega
theorem ins_rng {l : List Ins} {s : Int} (hs : s ≤ 8) (h : Valid l s) : ∀ x ∈ l, InsRng x := by
  intro x hx
  obtain ⟨k, hk⟩ := List.getElem?_of_mem hx
  have hlt := (List.getElem?_eq_some_iff.1 hk).1
  obtain ⟨y, hv, h1, h2, h3, h4, h5, h6⟩ := h.at hlt
  rw [hk] at h1
  obtain rfl := Option.some.inj h1
  have hl := h.len
  unfold okP at h4
  unfold InsRng
  repeat' (split at h4)
  all_goals simp at h4
  all_goals omega
theorem pMeth_back {l : List Ins} (hl : l.length ≤ 255) (h : ∀ x ∈ l, InsRng x) (s : List Int) : pMeth (encM l ++ s) = some (l, s) := by
  unfold pMeth encM
  rw [u8_id (by omega)]
  show pN pIns ((l.length : Int)).toNat ((l.map encI).flatten ++ s) = _
  rw [Int.toNat_natCast]
  exact pN_back l (fun x hx s => pIns_back (h x hx) s) s
theorem pClass_back {c : Cl} (hid : c.id.length = 16) (hf : ∀ f ∈ c.faces, FaceOk f) (hv : ClV c) (s : List Int) : pClass (encC c ++ s) = some (c, s) := by
  have hn := hv.nf
  have hm := hv.nm
  have hsl := hv.slots
  unfold pClass encC
  rw [if_neg (by simp; omega), u8_id (by omega), u8_id (by omega), u8_id (by omega)]
  rw [List.append_assoc, List.drop_append_of_le_length (by omega), List.drop_of_length_le (by omega), List.take_append_of_le_length (by omega), List.take_of_length_le (by omega)]
  simp only [List.nil_append, List.cons_append, pCount, Option.bind_some, List.append_assoc, Int.toNat_natCast]
  rw [pN_back c.faces (fun f hfm s => pFace_back (hf f hfm) (hv.base f hfm) s)]
  simp only [Option.bind_some, pCount]
  rw [Int.toNat_natCast, pN_back c.methods (fun l hl s => pMeth_back (by have := hv.l32 hl; omega) (ins_rng hsl.2 (hv.rows l hl)) s)]
  rfl
theorem pMod_back {m : List Cl} (hid : ∀ c ∈ m, c.id.length = 16 ∧ ∀ f ∈ c.faces, FaceOk f) (hv : (mcheckP m).2 = 0) : pMod (encP m) = some m := by
  obtain ⟨h8, hcv⟩ := mcheck_v hv
  unfold pMod encP
  rw [u8_id (by omega)]
  show (pN pClass ((m.length : Int)).toNat (m.map encC).flatten).map (·.1) = _
  have := pN_back (p := pClass) (f := encC) m (fun c hc s => pClass_back (hid c hc).1 (hid c hc).2 (hcv c hc) s) []
  rw [List.append_nil] at this
  rw [Int.toNat_natCast, this]
  rfl
theorem dec_back {m : List Cl} (hid : ∀ c ∈ m, c.id.length = 16 ∧ ∀ f ∈ c.faces, FaceOk f) (hv : (mcheckP m).2 = 0) : decP (encP m) = some m := by
  unfold decP
  rw [pMod_back hid hv]
  show (if (mcheckP m).2 = 0 ∧ encP m = encP m then some m else none) = some m
  rw [if_pos ⟨hv, rfl⟩]
theorem decP_enc {r : List Int} {m : List Cl} (h : decP r = some m) : pMod r = some m ∧ encP m = r := by
  unfold decP at h
  cases h1 : pMod r with
  | none => rw [h1] at h; cases h
  | some k =>
    rw [h1] at h
    simp only [Option.bind_some] at h
    split at h
    · rename_i hc
      obtain rfl := Option.some.inj h
      exact ⟨rfl, hc.2⟩
    · cases h
theorem dec_cut {m : List Cl} (hid : ∀ c ∈ m, c.id.length = 16 ∧ ∀ f ∈ c.faces, FaceOk f) (hv : (mcheckP m).2 = 0) {k : Nat} (hk : k < (encP m).length) : decP ((encP m).take k) = none := by
  cases h : decP ((encP m).take k) with
  | none => rfl
  | some m2 =>
    exfalso
    obtain ⟨h1, h2⟩ := decP_enc h
    have h3 := pMod_app ((encP m).drop k) h1
    rw [List.take_append_drop, pMod_back hid hv] at h3
    obtain rfl := Option.some.inj h3
    have := congrArg List.length h2
    rw [List.length_take] at this
    omega
theorem dec_more {m : List Cl} (hid : ∀ c ∈ m, c.id.length = 16 ∧ ∀ f ∈ c.faces, FaceOk f) (hv : (mcheckP m).2 = 0) (b : Int) : decP (encP m ++ [b]) = none := by
  cases h : decP (encP m ++ [b]) with
  | none => rfl
  | some m2 =>
    exfalso
    obtain ⟨h1, h2⟩ := decP_enc h
    rw [pMod_app [b] (pMod_back hid hv)] at h1
    obtain rfl := Option.some.inj h1
    have := congrArg List.length h2
    simp at this
end Go.Proofs.Ytnebpklmbefmfaa
